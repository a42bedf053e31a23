/- A mark's sector with one byte turned is none, or another mark's. No condition. -/
import Derived.Test.YtjjohdeknahkmaaX32
import Derived.Test.YtjjohdeknahkmaaX37
import Derived.Test.YtjjohdeknahkmaaMark1
namespace Go.Proofs.Ytjjohdeknahkmaa.Pure
open Go Go.RowKit Go.Proofs.Ytjjohdeknahkmaa.X Go.Proofs.Ytjjohdeknahkmaa.Plain Go.Proofs.YtjjohdeknahkmaaW.PrintWords Go.Proofs.YtjjohdeknahkmaaW.PrintMore

theorem bits_lo (a b : Int) : 0 ≤ bits .xor .u8 a b ∧ bits .xor .u8 a b < 256 := by
  unfold bits
  have := (BitVec.ofInt 8 a ^^^ BitVec.ofInt 8 b).isLt
  show 0 ≤ IntKind.u8.wrap ((BitVec.ofInt 8 a ^^^ BitVec.ofInt 8 b).toNat : Int) ∧ IntKind.u8.wrap ((BitVec.ofInt 8 a ^^^ BitVec.ofInt 8 b).toNat : Int) < 256
  rw [IntKind.wrap_u8]; omega
theorem bits_ne (a b : Int) (hb : 0 ≤ b ∧ b < 256) (h0 : b ≠ 0) : bits .xor .u8 a b ≠ a := by
  intro h
  unfold bits at h
  have h : IntKind.u8.wrap ((BitVec.ofInt 8 a ^^^ BitVec.ofInt 8 b).toNat : Int) = a := h
  have hl := (BitVec.ofInt 8 a ^^^ BitVec.ofInt 8 b).isLt
  rw [IntKind.wrap_u8] at h
  have e : (BitVec.ofInt 8 a ^^^ BitVec.ofInt 8 b) = BitVec.ofInt 8 a := by
    apply BitVec.eq_of_toNat_eq
    rw [BitVec.toNat_ofInt (n := 8) a]; omega
  have e2 := congrArg (fun z => BitVec.ofInt 8 a ^^^ z) e
  simp only [← BitVec.xor_assoc, BitVec.xor_self, BitVec.zero_xor] at e2
  have e3 := congrArg BitVec.toNat e2
  rw [BitVec.toNat_ofInt] at e3
  simp at e3
  omega
theorem MarkTurned : strakelaw06_MarkTurned.Pure := by
  intro L W S p q _ _ _ hp hq
  have hp := wf_i64 hp
  refine Ev.rounds (g := fun K => strakelaw06_MarkTurned.f K L W S p q) ?_
  unfold strakelaw06_MarkTurned.f
  rw [awake_is, sector_is]
  simp only [Option.bind_some]
  have yes : ∀ l, Ev (fun K => strakelaw06_MarkTurned.j0 K true l true L W S p q) true := fun l =>
    Ev.step (f := fun _ => some true) (fun K => by rw [strakelaw06_MarkTurned.j0, if_pos rfl]) (Ev.now _)
  by_cases hM : MR L W S
  · rw [if_pos hM]
    simp only [if_true]
    by_cases h1 : p < 0
    · simp only [if_pos h1]; exact yes _
    · simp only [if_neg h1]
      by_cases h2 : q % 256 = 0
      · rw [beq_iff_eq.2 h2]; exact yes _
      · rw [beq_eq_false_iff_ne.2 h2]
        have ht : Int.tmod p 16 = ((p % 16).toNat : Int) := by rw [Int.tmod_eq_emod_of_nonneg (by omega)]; omega
        obtain ⟨i, hi⟩ : ∃ i : Nat, (p % 16).toNat = i := ⟨_, rfl⟩
        have hi16 : i < 16 := by omega
        rw [hi] at ht
        have hlt : i < (ms L W S).length := by rw [ms_len]; exact hi16
        have hb := ms_bytes hM
        have hrd := rd_bytes hb hlt
        obtain ⟨x, hx⟩ : ∃ x, bits .xor .u8 (rd (ms L W S) (i : Int)) (q % 256) = x := ⟨_, rfl⟩
        have hxr := bits_lo (rd (ms L W S) (i : Int)) (q % 256)
        have hxn := bits_ne (rd (ms L W S) (i : Int)) (q % 256) (show 0 ≤ q % 256 ∧ q % 256 < 256 by omega) h2
        rw [hx] at hxr hxn
        obtain ⟨c, hc⟩ : ∃ c, (ms L W S).set i x = c := ⟨_, rfl⟩
        have hcb : Bytes c := by
          intro z hz
          rw [← hc] at hz
          rcases List.mem_or_eq_of_mem_set hz with hz | rfl
          · exact hb z hz
          · exact hxr
        have hcl : c.length = 16 := by rw [← hc, List.length_set, ms_len]
        have hcn : c ≠ ms L W S := by
          intro e
          have e1 : c[i]'(by omega) = x := by
            have : ((ms L W S).set i x)[i]'(by rw [List.length_set]; exact hlt) = x := List.getElem_set_self _
            simpa [hc] using this
          have e2 : (ms L W S)[i] = x := by rw [← e1]; congr 1; exact e.symm
          rw [rd_get hlt] at hxn
          exact hxn e2.symm
        refine Ev.step (f := fun K => (mark_Read.f K c).bind fun bt371 => (if bt371.2.2.2 = 0 then (some (!(bt371.1 == L) || (!(bt371.2.1 == W) || (!(bt371.2.2.1 == S))))) else (if bt371.2.2.2 = 3 then (if (bt371.1 == 0 && (bt371.2.1 == 0 && (bt371.2.2.1 == 0))) = true then (if (i : Int) = 2 then (some (decide ((rd c 2) > 63))) else (some true)) else (some false)) else (some false)))) (fun K => ?_) ?_
        · rw [strakelaw06_MarkTurned.j0, if_neg (by decide), if_pos (by rw [ms_len]; rfl), ht]
          simp only [Option.bind_some, List.nil_append, List.length_nil, ms_len, Int.toNat_natCast, if_pos (show (0 : Nat) + 16 < 140737488355328 by decide), if_pos (show (0 : Int) ≤ (i : Int) by omega), if_pos (show (i : Int) < ((16 : Nat) : Int) by omega), hx, hc, if_true, if_pos (show (2 : Int) < ((16 : Nat) : Int) by decide)]
        · refine Ev.bind (read_is c hcb) ?_
          rcases mr_cases c hcb with h | ⟨L', W', S', h, hM', hl⟩
          · rw [h]
            simp only [if_neg (show ¬ (3 : Int) = 0 by decide), if_true, beq_self_eq_true, Bool.and_self]
            by_cases h2' : (i : Int) = 2
            · rw [if_pos h2', decide_eq_true]
              · exact Ev.now _
              · obtain rfl : i = 2 := by omega
                have e2 : rd c 2 = x := by
                  have : rd c ((2 : Nat) : Int) = c[2]'(by omega) := rd_get (by omega)
                  rw [show (2 : Int) = ((2 : Nat) : Int) from rfl, this]
                  have h3 : ((ms L W S).set 2 x)[2]'(by rw [List.length_set]; exact hlt) = x := List.getElem_set_self _
                  simpa [hc] using h3
                rw [e2]
                by_cases h63 : x > 63
                · exact h63
                · exfalso
                  have hM2 : MR x W S := ⟨hxr.1, by omega, hM.2.2⟩
                  have e3 : c = ms x W S := by rw [← hc]; rfl
                  rw [e3, mr_ms hM2] at h
                  simp at h
            · rw [if_neg h2']; exact Ev.now _
          · rw [h]
            simp only [if_true]
            have hne : (!(L' == L) || (!(W' == W) || (!(S' == S)))) = true := by
              cases hf : (!(L' == L) || (!(W' == W) || (!(S' == S)))) with
              | true => rfl
              | false =>
                exfalso
                simp only [Bool.or_eq_false_iff, Bool.not_eq_false', beq_iff_eq] at hf
                obtain ⟨rfl, rfl, rfl⟩ := hf
                exact hcn hl
            rw [hne]; exact Ev.now _
  · rw [if_neg hM]
    simp only [if_neg (show ¬ (1 : Int) = 0 by decide)]
    exact yes _

end Go.Proofs.Ytjjohdeknahkmaa.Pure
