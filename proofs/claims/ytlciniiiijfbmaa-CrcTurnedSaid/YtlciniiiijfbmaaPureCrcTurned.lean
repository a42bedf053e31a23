/- Texts that are unlike within four neighbouring bytes alone have unlike sums. No condition. -/
import Derived.Test.YtlciniiiijfbmaaX4
import Derived.Test.YtlciniiiijfbmaaCrcRef
import Derived.Test.YtlciniiiijfbmaaCrcAwake
namespace Go.Proofs.Ytlciniiiijfbmaa.Pure
open Go Go.RowKit Go.Proofs.Ytlciniiiijfbmaa.X Go.Proofs.Ytlciniiiijfbmaa.Plain Go.Proofs.YtlciniiiijfbmaaW.PrintWords Go.Proofs.YtlciniiiijfbmaaW.PrintMore

theorem shr_byte (t : BitVec 32) (i : Nat) (hi : i ≤ 24) : (shr .u32 (u t) (i : Int)) % 256 = u ((t >>> i) &&& 255#32) := by
  rw [shr_u t i (by omega)]
  unfold u
  rw [BitVec.toNat_and]
  have : (t >>> i).toNat &&& (255#32).toNat = (t >>> i).toNat % 256 := Nat.and_two_pow_sub_one_eq_mod _ 8
  rw [this]; omega
theorem turned_l0 (l : List Int) (at_ : Nat) (t : BitVec 32) (K : Nat) (p s : List Int) (f0 f1 f2 f3 : Int) (hpl : p.length = at_) (hat : at_ ≤ 20000) :
    strakelaw01_CrcTurned.l0 (K + 4) l (at_ : Int) (u t) true (p ++ [f0, f1, f2, f3] ++ s) 0 =
    strakelaw01_CrcTurned.l0 K l (at_ : Int) (u t) true (p ++ [xr f0 (u (t &&& 255#32)), xr f1 (u ((t >>> 8) &&& 255#32)), xr f2 (u ((t >>> 16) &&& 255#32)), xr f3 (u ((t >>> 24) &&& 255#32))] ++ s) 4 := by
  have go : ∀ (K : Nat) (i : Nat) (L : List Int), i < 4 → at_ + i < L.length →
      strakelaw01_CrcTurned.l0 (K + 1) l (at_ : Int) (u t) true L (i : Int) = strakelaw01_CrcTurned.l0 K l (at_ : Int) (u t) true (L.set (at_ + i) (xr (rd L ((at_ + i : Nat) : Int)) (u ((t >>> (8 * i)) &&& 255#32)))) ((i + 1 : Nat) : Int) := by
    intro K i L hi hL
    have w1 : wrap64 ((at_ : Int) + (i : Int)) = ((at_ + i : Nat) : Int) := by rw [wrap_in (by omega) (by omega)]; omega
    have w2 : wrap64 (8 * (i : Int)) = ((8 * i : Nat) : Int) := by rw [wrap_in (by omega) (by omega)]; omega
    have w3 : wrap64 ((i : Int) + 1) = ((i + 1 : Nat) : Int) := by rw [wrap_in (by omega) (by omega)]; omega
    rw [strakelaw01_CrcTurned.l0, if_pos (by omega), w1, w2, w3, if_pos (by omega), if_pos (by omega), if_pos (by omega), Int.toNat_natCast, shr_byte t (8 * i) (by omega)]
    rfl
  have set_at : ∀ (i : Nat) (q : List Int) (v : Int), (p ++ q ++ s).set (at_ + i) v = if i < q.length then p ++ q.set i v ++ s else (p ++ q ++ s).set (at_ + i) v := by
    intro i q v
    by_cases h : i < q.length
    · rw [if_pos h, List.append_assoc, List.set_append_right _ _ (by omega), hpl, Nat.add_sub_cancel_left, List.set_append_left _ _ h, List.append_assoc]
    · rw [if_neg h]
  have rd_at : ∀ (i : Nat) (q : List Int) (h : i < q.length), rd (p ++ q ++ s) ((at_ + i : Nat) : Int) = q[i] := by
    intro i q h
    rw [rd_get (by simp only [List.length_append]; omega)]
    simp only [List.append_assoc]
    rw [List.getElem_append_right (by omega)]
    simp only [hpl, Nat.add_sub_cancel_left]
    rw [List.getElem_append_left h]
  have h0 := go (K + 3) 0 (p ++ [f0, f1, f2, f3] ++ s) (by omega) (by simp only [List.length_append, List.length_cons]; omega)
  rw [set_at, rd_at 0 _ (by simp), if_pos (by simp)] at h0
  refine h0.trans ?_
  have h1 := go (K + 2) 1 (p ++ [xr f0 (u ((t >>> (8 * 0)) &&& 255#32)), f1, f2, f3] ++ s) (by omega) (by simp only [List.length_append, List.length_cons]; omega)
  rw [set_at, rd_at 1 _ (by simp), if_pos (by simp)] at h1
  refine h1.trans ?_
  have h2 := go (K + 1) 2 (p ++ [xr f0 (u ((t >>> (8 * 0)) &&& 255#32)), xr f1 (u ((t >>> (8 * 1)) &&& 255#32)), f2, f3] ++ s) (by omega) (by simp only [List.length_append, List.length_cons]; omega)
  rw [set_at, rd_at 2 _ (by simp), if_pos (by simp)] at h2
  refine h2.trans ?_
  have h3 := go K 3 (p ++ [xr f0 (u ((t >>> (8 * 0)) &&& 255#32)), xr f1 (u ((t >>> (8 * 1)) &&& 255#32)), xr f2 (u ((t >>> (8 * 2)) &&& 255#32)), f3] ++ s) (by omega) (by simp only [List.length_append, List.length_cons]; omega)
  rw [set_at, rd_at 3 _ (by simp), if_pos (by simp)] at h3
  refine h3.trans ?_
  simp
theorem four_of (l : List Int) (i : Nat) (h : i + 4 ≤ l.length) : l = l.take i ++ [l[i], l[i + 1], l[i + 2], l[i + 3]] ++ l.drop (i + 4) := by
  have e : l = l.take i ++ l.drop i := (List.take_append_drop i l).symm
  rw [List.append_assoc]
  conv => lhs; rw [e]
  congr 1
  rw [List.drop_eq_getElem_cons (by omega), List.drop_eq_getElem_cons (by omega : i + 1 < l.length), List.drop_eq_getElem_cons (by omega : i + 1 + 1 < l.length), List.drop_eq_getElem_cons (by omega : i + 1 + 1 + 1 < l.length)]
  rfl
theorem CrcTurned : strakelaw01_CrcTurned.Pure := by
  intro l a t _ hn hw ha ht
  have hb := bytes_of hw
  have ha := wf_i64 ha
  have ht := wf_u32 ht
  refine Ev.rounds (g := fun K => strakelaw01_CrcTurned.f K l a t) ?_
  unfold strakelaw01_CrcTurned.f
  refine Ev.bind awake_is ?_
  have yes : Ev (fun k => strakelaw01_CrcTurned.j0 k l a t true true) true :=
    Ev.step (f := fun _ => some true) (fun k => by rw [strakelaw01_CrcTurned.j0, if_pos rfl]) (Ev.now _)
  by_cases h1 : (l.length : Int) < 4
  · simp only [if_pos h1]; exact yes
  simp only [if_neg h1]
  by_cases h2 : (l.length : Int) > 20000
  · simp only [if_pos h2]; exact yes
  simp only [if_neg h2]
  by_cases h3 : a < 0
  · simp only [if_pos h3]; exact yes
  simp only [if_neg h3]
  by_cases h4 : t = 0
  · rw [h4] at yes ⊢; exact yes
  have e4 : (t == 0) = false := beq_eq_false_iff_ne.2 h4
  rw [e4]
  have hwr : wrap64 ((l.length : Int) - 3) = (l.length : Int) - 3 := wrap_in (by omega) (by omega)
  have htm : Int.tmod a ((l.length : Int) - 3) = a % ((l.length : Int) - 3) := Int.tmod_eq_emod_of_nonneg (by omega)
  obtain ⟨i, hi⟩ : ∃ i : Nat, a % ((l.length : Int) - 3) = (i : Int) := Int.eq_ofNat_of_zero_le (Int.emod_nonneg _ (by omega))
  have hlt := Int.emod_lt_of_pos a (show (0 : Int) < (l.length : Int) - 3 by omega)
  have hi4 : i + 4 ≤ l.length := by omega
  refine Ev.step (f := fun K => strakelaw01_CrcTurned.l0 K l (i : Int) t true l 0) (fun K => ?_) ?_
  · rw [strakelaw01_CrcTurned.j0, if_neg (by decide), hwr, if_neg (by omega), htm, hi]
    simp only [Option.bind_some, List.nil_append, List.length_nil]
    rw [if_pos (by omega)]
  have hf := four_of l i hi4
  have hup : t = u (BitVec.ofInt 32 t) := (u_of t ht.1 ht.2).symm
  have hf4 : Bytes [l[i], l[i + 1], l[i + 2], l[i + 3]] := by
    intro x hx
    simp only [List.mem_cons, List.not_mem_nil, or_false] at hx
    rcases hx with rfl | rfl | rfl | rfl <;> exact hb _ (List.getElem_mem _)
  have hne := addS_turned (l.take i) (l.drop (i + 4)) [l[i], l[i + 1], l[i + 2], l[i + 3]] _ (BitVec.ofInt 32 t) (fun h => h4 (by rw [hup, h]; rfl)) hf4 rfl rfl
  rw [← hf] at hne
  generalize hq : (l.take i ++ (List.zipWith xr [l[i], l[i + 1], l[i + 2], l[i + 3]] [u (BitVec.ofInt 32 t &&& 255#32), u ((BitVec.ofInt 32 t >>> 8) &&& 255#32), u ((BitVec.ofInt 32 t >>> 16) &&& 255#32), u ((BitVec.ofInt 32 t >>> 24) &&& 255#32)]) ++ l.drop (i + 4)) = q at hne
  have hqb : Bytes q := by
    rw [← hq]
    refine ((hb.take i).app (zip_bytes _ _ hf4 ?_)).app (hb.drop _)
    have : ∀ a : BitVec 32, 0 ≤ u (a &&& 255#32) ∧ u (a &&& 255#32) < 256 := by
      intro a
      refine ⟨u_lo _, ?_⟩
      unfold u; rw [BitVec.toNat_and]
      have : a.toNat &&& (255#32).toNat < 2 ^ 8 := Nat.and_lt_two_pow _ (by decide)
      omega
    intro x hx
    simp only [List.mem_cons, List.not_mem_nil, or_false] at hx
    rcases hx with rfl | rfl | rfl | rfl <;> exact this _
  have hql : q.length = l.length := by
    rw [← hq]; simp only [List.length_append, List.length_take, List.length_zipWith, List.length_cons, List.length_nil, List.length_drop]; omega
  have hround : ∀ K, strakelaw01_CrcTurned.l0 (K + 4) l (i : Int) t true l 0 = strakelaw01_CrcTurned.l0 K l (i : Int) t true q 4 := by
    intro K
    have h := turned_l0 l i (BitVec.ofInt 32 t) K (l.take i) (l.drop (i + 4)) l[i] l[i + 1] l[i + 2] l[i + 3] (by rw [List.length_take]; omega) (by omega)
    rw [← hf, ← hup] at h
    refine h.trans ?_
    refine congrArg (fun z => strakelaw01_CrcTurned.l0 K l (i : Int) t true z 4) ?_
    exact hq
  have last : Ev (fun K => strakelaw01_CrcTurned.l0 K l (i : Int) t true q 4) true := by
    refine Ev.step (f := fun K => (crc_Sum.f K q).bind fun t162 => (crc_Sum.f K l).bind fun t163 => some (t162 != t163)) (fun K => ?_) ?_
    · rw [strakelaw01_CrcTurned.l0, if_neg (by omega), if_pos rfl]
    · refine Ev.bind (crc_Sum_is q hqb (by omega)) ?_
      refine Ev.bind (crc_Sum_is l hb (by omega)) ?_
      rw [bne_iff_ne.2 hne]; exact Ev.now _
  obtain ⟨K, hK⟩ := last
  exact ⟨K + 4, fun k hk => by
    obtain ⟨m, rfl⟩ : ∃ m, k = m + 4 := ⟨k - 4, by omega⟩
    exact (hround m).trans (hK m (by omega))⟩

end Go.Proofs.Ytlciniiiijfbmaa.Pure
