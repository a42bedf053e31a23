/- Of texts of one length the sums' XOR is that of the texts laid over one another. No condition. -/
import Derived.Test.YtlciniiiijfbmaaX3
import Derived.Test.YtlciniiiijfbmaaCrcRef
import Derived.Test.YtlciniiiijfbmaaCrcAwake
namespace Go.Proofs.Ytlciniiiijfbmaa.Pure
open Go Go.RowKit Go.Proofs.Ytlciniiiijfbmaa.X Go.Proofs.Ytlciniiiijfbmaa.Plain Go.Proofs.YtlciniiiijfbmaaW.PrintWords Go.Proofs.YtlciniiiijfbmaaW.PrintMore

theorem laid_l0 (l m k : List Int) (hl : Bytes l) (hm : Bytes m) (hk : Bytes k) (n : Nat) (h1 : n ≤ l.length) (h2 : n ≤ m.length) (h3 : n ≤ k.length) (hn : n ≤ 20000) (d : Nat) : ∀ i : Nat, i + d = n →
    Ev (fun K => strakelaw01_CrcLaid.l0 K l m k true (n : Int) ((List.zipWith xr (List.zipWith xr l m) k).take i) (i : Int)) true := by
  induction d with
  | zero =>
    intro i hi
    obtain rfl : i = n := by omega
    refine Ev.step (f := fun K => (crc_Sum.f K (l.take i)).bind fun t141 => (crc_Sum.f K (m.take i)).bind fun t146 => (crc_Sum.f K (k.take i)).bind fun t151 => (crc_Sum.f K ((List.zipWith xr (List.zipWith xr l m) k).take i)).bind fun t152 => some ((bits .xor .u32 (bits .xor .u32 t141 t146) t151) == t152)) (fun K => ?_) ?_
    · rw [strakelaw01_CrcLaid.l0, if_neg (by omega), if_pos rfl, if_pos (by omega), if_pos (by omega)]
      simp only [Int.toNat_natCast]
      simp only [if_pos (show (i : Int) ≤ (m.length : Int) by omega), if_pos (show (i : Int) ≤ (k.length : Int) by omega)]
    · refine Ev.bind (crc_Sum_is _ (hl.take i) (by rw [List.length_take]; omega)) ?_
      refine Ev.bind (crc_Sum_is _ (hm.take i) (by rw [List.length_take]; omega)) ?_
      refine Ev.bind (crc_Sum_is _ (hk.take i) (by rw [List.length_take]; omega)) ?_
      refine Ev.bind (crc_Sum_is _ ((zip_bytes _ _ (zip_bytes _ _ hl hm) hk).take i) (by rw [List.length_take]; omega)) ?_
      rw [addS_three _ _ _ (by simp only [List.length_take]; omega) (by simp only [List.length_take]; omega) (hl.take i) (hm.take i) (hk.take i)]
      rw [List.take_zipWith, List.take_zipWith, beq_self_eq_true]; exact Ev.now _
  | succ d ih =>
    intro i hi
    have hw : wrap64 ((i : Int) + 1) = ((i + 1 : Nat) : Int) := by rw [wrap_in (by omega) (by omega)]; rfl
    refine Ev.step (f := fun K => strakelaw01_CrcLaid.l0 K l m k true (n : Int) ((List.zipWith xr (List.zipWith xr l m) k).take (i + 1)) ((i + 1 : Nat) : Int)) (fun K => ?_) (ih (i + 1) (by omega))
    have hz : i < (List.zipWith xr (List.zipWith xr l m) k).length := by simp only [List.length_zipWith]; omega
    have hrd : bits .xor .u8 (bits .xor .u8 (rd l (i : Int)) (rd m (i : Int))) (rd k (i : Int)) = (List.zipWith xr (List.zipWith xr l m) k)[i] := by
      rw [rd_get (by omega), rd_get (by omega), rd_get (by omega), List.getElem_zipWith, List.getElem_zipWith]; rfl
    rw [strakelaw01_CrcLaid.l0, if_pos (by omega), if_pos (by omega), if_pos (by omega), if_pos (by omega), if_pos (by omega), if_pos (by rw [List.length_take]; omega), hw, hrd, ← List.take_succ_eq_append_getElem hz]
theorem CrcLaid : strakelaw01_CrcLaid.Pure := by
  intro l m k _ hn hw _ hn' hw' _ hn'' hw''
  refine Ev.rounds (g := fun K => strakelaw01_CrcLaid.f K l m k) ?_
  unfold strakelaw01_CrcLaid.f
  refine Ev.bind awake_is ?_
  obtain ⟨n, hN, h1, h2, h3, h4⟩ : ∃ n : Nat, mn (mn (mn (l.length : Int) (m.length : Int)) (k.length : Int)) 20000 = (n : Int) ∧ n ≤ l.length ∧ n ≤ m.length ∧ n ≤ k.length ∧ n ≤ 20000 := by
    refine ⟨min (min (min l.length m.length) k.length) 20000, ?_, by omega, by omega, by omega, by omega⟩
    unfold mn; (repeat' split) <;> omega
  rw [hN]
  exact laid_l0 l m k (bytes_of hw) (bytes_of hw') (bytes_of hw'') n h1 h2 h3 h4 n 0 (by omega)

end Go.Proofs.Ytlciniiiijfbmaa.Pure
