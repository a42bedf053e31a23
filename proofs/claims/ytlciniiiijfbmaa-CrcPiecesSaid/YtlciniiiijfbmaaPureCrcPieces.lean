/- The sum of bytes, piece by piece, is that of all, wherever they are cut. No condition. -/
import Derived.Test.YtlciniiiijfbmaaX4
import Derived.Test.YtlciniiiijfbmaaCrcRef
import Derived.Test.YtlciniiiijfbmaaCrcAwake
namespace Go.Proofs.Ytlciniiiijfbmaa.Pure
open Go Go.RowKit Go.Proofs.Ytlciniiiijfbmaa.X Go.Proofs.Ytlciniiiijfbmaa.Plain Go.Proofs.YtlciniiiijfbmaaW.PrintWords Go.Proofs.YtlciniiiijfbmaaW.PrintMore

theorem pieces (l c : List Int) (hb : Bytes l) (hl : l.length ≤ 20000) (hc : c.length ≤ 140737488351232) (d : Nat) : ∀ (i from_ : Nat), i + d = c.length → from_ ≤ l.length →
    Ev (fun K => strakelaw01_CrcPieces.l0 K l c true (addS 0 (l.take from_)) (from_ : Int) (i : Int)) true := by
  have stop : ∀ (i from_ : Nat), from_ ≤ l.length → Ev (fun K => strakelaw01_CrcPieces.j1 K l c true (addS 0 (l.take from_)) (from_ : Int) (i : Int) false) true := by
    intro i from_ hf
    refine Ev.step (f := fun K => (crc_Add.f K (addS 0 (l.take from_)) (l.drop from_)).bind fun t178 => (crc_Sum.f K l).bind fun t179 => some (t178 == t179)) (fun K => ?_) ?_
    · rw [strakelaw01_CrcPieces.j1, if_neg (by decide), if_pos rfl, if_pos (by omega), if_pos (by omega), Int.toNat_natCast]
    · refine Ev.bind (crc_Add_is _ (addS_lo _ _) (addS_hi _ _) _ (hb.drop _) (by rw [List.length_drop]; omega)) ?_
      refine Ev.bind (crc_Sum_is l hb (by omega)) ?_
      rw [← addS_append, List.take_append_drop, beq_self_eq_true]; exact Ev.now _
  induction d with
  | zero =>
    intro i from_ hi hf
    refine Ev.step (f := fun K => strakelaw01_CrcPieces.j1 K l c true (addS 0 (l.take from_)) (from_ : Int) (i : Int) false) (fun K => ?_) (stop i from_ hf)
    rw [strakelaw01_CrcPieces.l0, if_neg (by omega)]
  | succ d ih =>
    intro i from_ hi hf
    have hw : wrap64 ((i : Int) + 1) = ((i + 1 : Nat) : Int) := by rw [wrap_in (by omega) (by omega)]; rfl
    refine Ev.step (f := fun K => strakelaw01_CrcPieces.j1 K l c true (addS 0 (l.take from_)) (from_ : Int) (i : Int) (decide ((i : Int) < 100))) (fun K => ?_) ?_
    · rw [strakelaw01_CrcPieces.l0, if_pos (by omega)]
    by_cases h100 : (i : Int) < 100
    · rw [decide_eq_true h100]
      have skip : Ev (fun K => strakelaw01_CrcPieces.l0 K l c true (addS 0 (l.take from_)) (from_ : Int) ((i + 1 : Nat) : Int)) true := ih (i + 1) from_ (by omega) hf
      by_cases h1 : rd c (i : Int) ≥ (from_ : Int)
      · by_cases h2 : rd c (i : Int) ≤ (l.length : Int)
        · obtain ⟨to_, hto⟩ : ∃ to_ : Nat, rd c (i : Int) = (to_ : Int) := Int.eq_ofNat_of_zero_le (by omega)
          refine Ev.step (f := fun K => (crc_Add.f K (addS 0 (l.take from_)) ((l.take to_).drop from_)).bind fun t172 => strakelaw01_CrcPieces.l0 K l c true t172 (to_ : Int) ((i + 1 : Nat) : Int)) (fun K => ?_) ?_
          · rw [strakelaw01_CrcPieces.j1, if_pos rfl, if_pos (by omega), if_pos (by omega), if_pos h1, if_pos h2, if_pos (by omega), if_pos h1, hto, hw, Int.toNat_natCast, Int.toNat_natCast]
          · rw [hto] at h1 h2
            refine Ev.bind (crc_Add_is _ (addS_lo _ _) (addS_hi _ _) _ ((hb.take _).drop _) (by rw [List.length_drop, List.length_take]; omega)) ?_
            have e : l.take from_ ++ (l.take to_).drop from_ = l.take to_ := by
              have : l.take from_ = (l.take to_).take from_ := by rw [List.take_take, Nat.min_eq_left (by omega)]
              rw [this, List.take_append_drop]
            rw [← addS_append, e]
            exact ih (i + 1) to_ (by omega) (by omega)
        · refine Ev.step (fun K => ?_) skip
          rw [strakelaw01_CrcPieces.j1, if_pos rfl, if_pos (by omega), if_pos (by omega), if_pos h1, if_neg h2, hw]
      · refine Ev.step (fun K => ?_) skip
        rw [strakelaw01_CrcPieces.j1, if_pos rfl, if_pos (by omega), if_pos (by omega), if_neg h1, hw]
    · rw [decide_eq_false h100]; exact stop i from_ hf
theorem CrcPieces : strakelaw01_CrcPieces.Pure := by
  intro l c _ hn hw _ hn' _
  have hb := bytes_of hw
  refine Ev.rounds (g := fun K => strakelaw01_CrcPieces.f K l c) ?_
  unfold strakelaw01_CrcPieces.f
  refine Ev.bind awake_is ?_
  by_cases h : (l.length : Int) > 20000
  · simp only [if_pos h]; exact Ev.now _
  · simp only [if_neg h]
    have := pieces l c hb (by omega) (by omega) c.length 0 0 (by omega) (by omega)
    rw [show addS 0 (l.take 0) = 0 from by rw [List.take_zero]; decide] at this
    exact this

end Go.Proofs.Ytlciniiiijfbmaa.Pure
