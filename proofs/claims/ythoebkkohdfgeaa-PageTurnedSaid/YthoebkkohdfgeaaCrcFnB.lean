/- What the printed functions of package crc come to: 'addS'. -/
import Derived.Test.YthoebkkohdfgeaaX1
import Derived.Test.YthoebkkohdfgeaaBits
import Derived.Test.YthoebkkohdfgeaaBase
namespace Go.Proofs.Ythoebkkohdfgeaa.Plain
open Go Go.RowKit Go.Proofs.Ythoebkkohdfgeaa.X Go.Proofs.YthoebkkohdfgeaaW.PrintWords Go.Proofs.YthoebkkohdfgeaaW.PrintMore

theorem crc_l1 (l : List Int) (n i r : Int) (d : Nat) : ∀ (c : BitVec 32) (j : Int) (K : Nat), 0 ≤ j → j + d = 8 →
    crc_Add.l0 K (u (steps d c)) l n (wrap64 (i + 1)) = some r → crc_Add.l1 (K + d + 1) (u c) l n i j = some r := by
  induction d with
  | zero =>
    intro c j K h0 hj h
    rw [crc_Add.l1]
    rw [if_neg (by omega)]; exact h
  | succ d ih =>
    intro c j K h0 hj h
    have hw : wrap64 (j + 1) = j + 1 := wrap_in (by omega) (by omega)
    show crc_Add.l1 ((K + d + 1) + 1) (u c) l n i j = some r
    rw [crc_Add.l1]
    rw [if_pos (by omega), hw, u_half]
    have hp : (3988292384 : Int) = u 0xEDB88320#32 := by decide
    have hs := ih (step c) (j + 1) K (by omega) (by omega) h
    by_cases hb : c.getLsbD 0 = true
    · rw [if_pos ((low_u c).2 hb), hp, xor_u]
      rw [show (c >>> 1) ^^^ 0xEDB88320#32 = step c from by unfold step; rw [if_pos hb]]
      exact hs
    · rw [if_neg (fun hh => hb ((low_u c).1 hh))]
      rw [show c >>> 1 = step c from by unfold step; rw [if_neg hb]]
      exact hs
theorem crc_l0 (l : List Int) (hb : Bytes l) (hl : l.length ≤ 140737488351232) (d : Nat) : ∀ (c : BitVec 32) (i : Nat), i + d = l.length →
    crc_Add.l0 (10 * d + 1) (u c) l (l.length : Int) (i : Int) = some (u (~~~ run c (l.drop i))) := by
  induction d with
  | zero =>
    intro c i hi
    rw [crc_Add.l0]
    rw [if_neg (by omega), List.drop_eq_nil_of_le (by omega)]
    show some _ = _
    rw [not_u]; rfl
  | succ d ih =>
    intro c i hi
    have hlt : i < l.length := by omega
    have hx := rd_bytes hb hlt
    show crc_Add.l0 ((10 * d + 1 + 8 + 1) + 1) (u c) l (l.length : Int) (i : Int) = _
    rw [crc_Add.l0]
    rw [if_pos (by omega), if_pos (by omega), if_pos (by omega), Int.emod_eq_of_lt hx.1 (by omega)]
    have hr := ih (byte c (rd l i)) (i + 1) (by omega)
    have hw : wrap64 ((i : Int) + 1) = ((i + 1 : Nat) : Int) := by rw [wrap_in (by omega) (by omega)]; rfl
    rw [← u_of (rd l i) hx.1 (by omega), xor_u]
    have hz := crc_l1 l (l.length : Int) i (u (~~~ run c (l.drop i))) 8 (c ^^^ BitVec.ofInt 32 (rd l i)) 0 (10 * d + 1) (by omega) (by omega)
    apply hz
    rw [hw]
    refine hr.trans ?_
    rw [List.drop_eq_getElem_cons hlt, ← rd_get hlt]
    rfl
theorem crc_Add_is (c : Int) (h0 : 0 ≤ c) (h1 : c < 4294967296) (l : List Int) (hb : Bytes l) (hl : l.length ≤ 140737488351232) : Ev (fun k => crc_Add.f k c l) (addS c l) := by
  refine Ev.of (crc_Add.mono c l) (k := 10 * l.length + 1) ?_
  unfold crc_Add.f
  have := crc_l0 l hb hl l.length (~~~ BitVec.ofInt 32 c) 0 (by omega)
  rw [← not_u, u_of c h0 h1] at this
  exact this
theorem crc_Sum_is (l : List Int) (hb : Bytes l) (hl : l.length ≤ 140737488351232) : Ev (fun k => crc_Sum.f k l) (addS 0 l) := by
  unfold crc_Sum.f
  exact Ev.bind (crc_Add_is 0 (by omega) (by omega) l hb hl) (Ev.now _)
end Go.Proofs.Ythoebkkohdfgeaa.Plain
