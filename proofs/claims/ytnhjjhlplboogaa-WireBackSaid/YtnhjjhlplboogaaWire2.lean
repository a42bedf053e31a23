/- What the printed functions of package wire come to: 'numS', 'tk', 'tx'. -/
import Derived.Test.YtnhjjhlplboogaaX1
import Derived.Test.YtnhjjhlplboogaaWire1
namespace Go.Proofs.Ytnhjjhlplboogaa.Plain
open Go Go.RowKit Go.Proofs.Ytnhjjhlplboogaa.X Go.Proofs.YtnhjjhlplboogaaW.PrintWords Go.Proofs.YtnhjjhlplboogaaW.PrintMore

theorem number_l1 (L : List Int) (n i : Int) (r : List Int) (m : Nat) : ∀ (acc : List Int), m < 9223372036854775808 → acc.length + (vi m).length < 140737488355328 →
    Ev (fun K => wire_Number.l0 K (acc ++ vi m) L n (wrap64 (i + 1))) r → Ev (fun K => wire_Number.l1 K acc (m : Int) L n i) r := by
  induction m using Nat.strongRecOn with
  | _ m ih =>
    intro acc hm hl h
    by_cases h1 : m < 128
    · rw [vi_small h1] at h hl
      refine Ev.step (fun K => ?_) h
      rw [wire_Number.l1, if_neg (by omega), if_pos (by simp at hl; omega), Int.emod_eq_of_lt (by omega) (by omega)]
    · rw [vi_big (by omega)] at h hl
      have hd : Int.tdiv (m : Int) 128 = ((m / 128 : Nat) : Int) := by rw [Int.tdiv_eq_ediv_of_nonneg (by omega)]; omega
      have ht : Int.tmod (m : Int) 128 = ((m % 128 : Nat) : Int) := by rw [Int.tmod_eq_emod_of_nonneg (by omega)]; omega
      have hw : wrap64 ((m / 128 : Nat) : Int) = ((m / 128 : Nat) : Int) := wrap_in (by omega) (by omega)
      have e : (((m % 128 : Nat) : Int) + 128) % 256 = ((m % 128 + 128 : Nat) : Int) := by omega
      have hp := vi_pos (m / 128)
      simp only [List.length_cons] at hl
      refine Ev.step (f := fun K => wire_Number.l1 K (acc ++ [((m % 128 + 128 : Nat) : Int)]) ((m / 128 : Nat) : Int) L n i) (fun K => ?_) ?_
      · rw [wire_Number.l1, if_pos (by omega), if_pos (by omega), ht, hd, hw, e]
      · refine ih (m / 128) (by omega) _ (by omega) (by simp only [List.length_append, List.length_cons, List.length_nil]; omega) ?_
        rw [List.append_assoc]; exact h
theorem number_l0 (L : List Int) (hL : In64 L) (hl : 10 * L.length < 140737488355328) (d : Nat) : ∀ (i : Nat), i + d = L.length →
    Ev (fun K => wire_Number.l0 K (numS (L.take i)) L (L.length : Int) (i : Int)) (numS L) := by
  induction d with
  | zero =>
    intro i hi
    refine Ev.step (f := fun _ => some (numS L)) (fun K => ?_) (Ev.now _)
    rw [wire_Number.l0, if_neg (by omega), List.take_of_length_le (by omega)]
  | succ d ih =>
    intro i hi
    have hlt : i < L.length := by omega
    have hw : wrap64 ((i : Int) + 1) = ((i + 1 : Nat) : Int) := by rw [wrap_in (by omega) (by omega)]; rfl
    have hn := ih (i + 1) (by omega)
    have hx := hL _ (List.getElem_mem hlt)
    rw [List.take_succ_eq_append_getElem hlt, numS_append] at hn
    have hlen := numS_len (L.take i) (fun z hz => hL z (List.mem_of_mem_take hz))
    rw [List.length_take] at hlen
    by_cases h0 : L[i] < 0
    · have e : numS [L[i]] = [] := by simp only [numS]; rw [if_pos h0]
      rw [e, List.append_nil] at hn
      refine Ev.step (fun K => ?_) hn
      rw [wire_Number.l0, if_pos (by omega), if_pos (by omega), if_pos (by omega), rd_get hlt, if_pos h0, hw]
    · have e : numS [L[i]] = vi L[i].toNat := by simp only [numS]; rw [if_neg h0, List.append_nil]
      rw [e] at hn
      refine Ev.step (f := fun K => wire_Number.l1 K (numS (L.take i)) (L[i].toNat : Int) L (L.length : Int) (i : Int)) (fun K => ?_) ?_
      · rw [wire_Number.l0, if_pos (by omega), if_pos (by omega), if_pos (by omega), rd_get hlt, if_neg h0, Int.toNat_of_nonneg (by omega)]
      · have h9 := @vi_nine L[i].toNat (by omega)
        have hp := vi_pos L[i].toNat
        refine number_l1 L _ _ _ _ _ (by omega) (by omega) ?_
        rw [hw]; exact hn
theorem number_is (L : List Int) (hL : In64 L) (hl : 10 * L.length < 140737488355328) : Ev (fun K => wire_Number.f K L) (numS L) := by
  have := number_l0 L hL hl L.length 0 (by omega)
  exact this
theorem number_one {n : Nat} (h : n < 9223372036854775808) : Ev (fun K => wire_Number.f K [(n : Int)]) (vi n) := by
  have := number_is [(n : Int)] (fun x hx => by rw [List.mem_singleton.1 hx]; omega) (by simp)
  rwa [numS_one] at this
theorem awake_is : Ev (fun k => strakelaw02_awake.f k) true := by
  unfold strakelaw02_awake.f
  refine Ev.bind (number_is [0, 300] (fun x hx => by simp at hx; omega) (by simp)) ?_
  have e : numS [0, 300] = [0, 172, 2] := by
    simp only [numS]
    rw [if_neg (by decide), if_neg (by decide), show (0 : Int).toNat = 0 from rfl, show (300 : Int).toNat = 300 from rfl, vi_small (by omega), vi_big (by omega), vi_small (by omega)]
    rfl
  rw [e]
  have e2 : (strOfNums [0, 172, 2]).toList = ([0, 172, 2] : List UInt8) := by rw [ByteArray.toList_eq, strOfNums_data]; rfl
  simp only [e2, beq_self_eq_true]
  exact Ev.now _
end Go.Proofs.Ytnhjjhlplboogaa.Plain
