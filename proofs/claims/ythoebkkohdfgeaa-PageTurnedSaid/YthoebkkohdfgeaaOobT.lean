/- A byte turned, ahead of a sector's sum, in it or behind it, is told. (PureOobTurned's lemmas, for the page.) -/
import Derived.Test.YthoebkkohdfgeaaX13
import Derived.Test.YthoebkkohdfgeaaOobP1
import Derived.Test.YthoebkkohdfgeaaCrcLawsB
namespace Go.Proofs.Ythoebkkohdfgeaa.Plain
open Go Go.RowKit Go.Proofs.Ythoebkkohdfgeaa.X Go.Proofs.YthoebkkohdfgeaaW.PrintWords Go.Proofs.YthoebkkohdfgeaaW.PrintMore

theorem bits_lo (a b : Int) : 0 ≤ bits .xor .u8 a b ∧ bits .xor .u8 a b < 256 := by
  unfold bits
  have := (BitVec.ofInt 8 a ^^^ BitVec.ofInt 8 b).isLt
  show 0 ≤ IntKind.u8.wrap ((BitVec.ofInt 8 a ^^^ BitVec.ofInt 8 b).toNat : Int) ∧ IntKind.u8.wrap ((BitVec.ofInt 8 a ^^^ BitVec.ofInt 8 b).toNat : Int) < 256
  rw [IntKind.wrap_u8]; omega
theorem bits_ne (a b : Int) (hb : 0 ≤ b ∧ b < 256) (h0 : b ≠ 0) : bits .xor .u8 a b ≠ a := by
  intro h
  unfold bits at h
  have h : IntKind.u8.wrap ((BitVec.ofInt 8 a ^^^ BitVec.ofInt 8 b).toNat : Int) = a := h
  have hl := (BitVec.ofInt 8 a ^^^ BitVec.ofInt 8 b).isLt
  rw [IntKind.wrap_u8] at h
  have e : (BitVec.ofInt 8 a ^^^ BitVec.ofInt 8 b) = BitVec.ofInt 8 a := by
    apply BitVec.eq_of_toNat_eq
    rw [BitVec.toNat_ofInt (n := 8) a]; omega
  have e2 := congrArg (fun z => BitVec.ofInt 8 a ^^^ z) e
  simp only [← BitVec.xor_assoc, BitVec.xor_self, BitVec.zero_xor] at e2
  have e3 := congrArg BitVec.toNat e2
  rw [BitVec.toNat_ofInt] at e3
  simp at e3
  omega
theorem one_set (l : List Int) (i : Nat) (v : Int) (hi : i < l.length) (hl : Bytes l) (hv : 0 ≤ v ∧ v < 256) (h : addS 0 (l.set i v) = addS 0 l) : v = l[i] := by
  have e1 : l.set i v = l.take i ++ [v] ++ l.drop (i + 1) := by rw [List.set_eq_take_append_cons_drop, if_pos hi]; simp
  have e2 : l = l.take i ++ [l[i]] ++ l.drop (i + 1) := by
    conv => lhs; rw [← List.take_append_drop i l]
    rw [List.drop_eq_getElem_cons hi]; simp
  rw [e1] at h
  conv at h => rhs; rw [e2]
  exact addS_one _ _ v l[i] hv (hl _ (List.getElem_mem hi)) h
theorem fx_inj {q q' : Int} (h0 : 0 ≤ q ∧ q < 4294967296) (h1 : 0 ≤ q' ∧ q' < 4294967296) (e : fx q = fx q') : q = q' := by
  unfold fx at e
  simp only [List.cons.injEq, and_true] at e
  omega
/-- a byte turned, ahead of the sum, in it or behind it: the sum tells it -/
theorem turned_told (K L S : Int) (d : List Int) (hR : OR K L S) (hd : Bytes d) (hl : d.length = 16) (i : Nat) (hi : i < 33) (v : Int) (hv : 0 ≤ v ∧ v < 256)
    (hne : ∀ h : i < (pk K L S d ++ d).length, v ≠ (pk K L S d ++ d)[i]) :
    ∃ f, (f = 3 ∨ f = 4) ∧ Ev (fun k => oob_Unpack.f k (((pk K L S d ++ d).set i v).take 17) (((pk K L S d ++ d).set i v).drop 17)) (0, 0, 0, f) := by
  obtain ⟨q, hq⟩ : ∃ q, q = addS 0 (fr K L S ++ d) := ⟨_, rfl⟩
  have hqr : 0 ≤ q ∧ q < 4294967296 := by rw [hq]; exact ⟨addS_lo _ _, addS_hi _ _⟩
  have hp : pk K L S d = fr K L S ++ fx q := by rw [hq]; rfl
  rw [hp] at hne ⊢
  have hfb := fr_bytes hR.K L S
  have hfl := fr_len K L S
  have hlen : (fr K L S ++ fx q ++ d).length = 33 := by rw [List.length_append, List.length_append, hfl, fx_len, hl]
  have hx := hne (by omega)
  -- what is read of it, and that its sum does not fit
  have key : ∀ (g s t : List Int), (fr K L S ++ fx q ++ d).set i v = g ++ s ++ t → g.length = 13 → s.length = 4 → t.length = 16 → Bytes g → Bytes s → Bytes t →
      (∀ q', 0 ≤ q' ∧ q' < 4294967296 → s = fx q' → q' ≠ addS 0 (g ++ t)) →
      ∃ f, (f = 3 ∨ f = 4) ∧ Ev (fun k => oob_Unpack.f k (((fr K L S ++ fx q ++ d).set i v).take 17) (((fr K L S ++ fx q ++ d).set i v).drop 17)) (0, 0, 0, f) := by
    intro g s t e hg hs ht bg bs bt hno
    have hgs : (g ++ s).length = 17 := by rw [List.length_append, hg, hs]
    rw [e, List.take_left' hgs, List.drop_left' hgs]
    obtain ⟨K', L', S', q', hK, hL, hS, hq', e2⟩ := oshape (Bytes.app bg bs) hgs
    obtain ⟨e3, e4⟩ := List.append_inj e2 (by rw [hg, fr_len])
    have hu := unpack_is K' L' S' q' t hK hL hS hq' bt (by omega)
    rw [← e2] at hu
    unfold ut at hu
    by_cases h1 : t.length = 16 ∧ OR K' L' S'
    · rw [if_pos h1, if_neg (by rw [← e3]; exact hno q' hq' e4)] at hu
      exact ⟨4, .inr rfl, hu⟩
    · rw [if_neg h1] at hu
      exact ⟨3, .inl rfl, hu⟩
  have setb : ∀ {l : List Int} (j : Nat), Bytes l → Bytes (l.set j v) := by
    intro l j hb z hz
    rcases List.mem_or_eq_of_mem_set hz with hz | rfl
    · exact hb z hz
    · exact hv
  by_cases c1 : i < 13
  · refine key ((fr K L S).set i v) (fx q) d ?_ (by rw [List.length_set, hfl]) (fx_len q) hl (setb i hfb) (fx_bytes q) hd ?_
    · rw [List.append_assoc, List.set_append_left _ _ (by omega), ← List.append_assoc]
    · intro q' hq' e e2
      have := fx_inj hqr hq' e
      subst this
      have h3 : (fr K L S ++ d).set i v = (fr K L S).set i v ++ d := List.set_append_left _ _ (by omega)
      have := one_set (fr K L S ++ d) i v (by rw [List.length_append]; omega) (Bytes.app hfb hd) hv (by rw [h3, ← e2, hq])
      apply hx
      rw [this]
      simp only [List.append_assoc]
      rw [List.getElem_append_left (by omega), List.getElem_append_left (by omega)]
  · by_cases c2 : i < 17
    · refine key (fr K L S) ((fx q).set (i - 13) v) d ?_ hfl (by rw [List.length_set, fx_len]) hl hfb (setb _ (fx_bytes q)) hd ?_
      · rw [List.append_assoc, List.set_append_right _ _ (by omega), hfl, List.set_append_left _ _ (by rw [fx_len]; omega), ← List.append_assoc]
      · intro q' hq' e e2
        rw [← hq] at e2
        subst e2
        apply hx
        have h4 : i - 13 < (fx q').length := by rw [fx_len]; omega
        have h5 : ((fx q').set (i - 13) v)[i - 13]'(by rw [List.length_set]; exact h4) = (fx q')[i - 13] := by simp only [e]
        rw [List.getElem_set_self] at h5
        rw [h5]
        simp only [List.append_assoc]
        rw [List.getElem_append_right (by omega), List.getElem_append_left (by omega)]
        simp only [hfl]
    · refine key (fr K L S) (fx q) (d.set (i - 17) v) ?_ hfl (fx_len q) (by rw [List.length_set, hl]) hfb (fx_bytes q) (setb _ hd) ?_
      · rw [List.set_append_right _ _ (by rw [List.length_append, hfl, fx_len]; omega), List.length_append, hfl, fx_len]
      · intro q' hq' e e2
        have := fx_inj hqr hq' e
        subst this
        have h3 : (fr K L S ++ d).set (i - 4) v = fr K L S ++ d.set (i - 17) v := by
          rw [List.set_append_right _ _ (by omega), hfl]
          congr 2
        have := one_set (fr K L S ++ d) (i - 4) v (by rw [List.length_append]; omega) (Bytes.app hfb hd) hv (by rw [h3, ← e2, hq])
        apply hx
        rw [this, List.getElem_append_right (by omega), List.getElem_append_right (by rw [List.length_append, hfl, fx_len]; omega)]
        simp only [hfl, List.length_append, fx_len]
        congr 1
end Go.Proofs.Ythoebkkohdfgeaa.Plain
