/- What Newest and Stale tell does not hang on the order in which things were found. No condition. -/
import Derived.Test.YtlheknapgonakaaX6
import Derived.Test.YtlheknapgonakaaX10
import Derived.Test.YtlheknapgonakaaX33
import Derived.Test.YtlheknapgonakaaX41
import Derived.Test.YtlheknapgonakaaX42
import Derived.Test.YtlheknapgonakaaStatReplayTurned
import Derived.Test.YtlheknapgonakaaReplay2
namespace Go.Proofs.Ytlheknapgonakaa.Pure
open Go Go.RowKit Go.Proofs.Ytlheknapgonakaa.X Go.Proofs.Ytlheknapgonakaa.Plain Go.Proofs.YtlheknapgonakaaW.PrintWords Go.Proofs.YtlheknapgonakaaW.PrintMore

def elT (l : List S27) (k i : Nat) : S27 := rd_T27 l (((i + k) % l.length : Nat) : Int)
def outT (l : List S27) (k i : Nat) : List S27 := ((List.range' i (l.length - i)).map (elT l k)).reverse
theorem outT_step {l : List S27} {k i : Nat} (h : i < l.length) : outT l k i = outT l k (i + 1) ++ [elT l k i] := by
  unfold outT
  obtain ⟨m, hm⟩ : ∃ m, l.length - i = m + 1 := ⟨l.length - i - 1, by omega⟩
  rw [hm, show l.length - (i + 1) = m by omega, List.range'_succ]
  simp
theorem outT_perm {l : List S27} {k : Nat} (hk : k < l.length) : (outT l k 0).Perm l := by
  have e : (List.range' 0 (l.length - 0)).map (elT l k) = l.drop k ++ l.take k := by
    refine List.ext_getElem (by simp; omega) fun j h1 h2 => ?_
    have hj : j < l.length := by simpa using h1
    rw [List.getElem_map, List.getElem_range']
    unfold elT
    rw [rd27_get (Nat.mod_lt _ (by omega))]
    by_cases c : j + k < l.length
    · rw [List.getElem_append_left (by simp; omega), List.getElem_drop]
      congr 1
      simp only [Nat.zero_add, Nat.one_mul]
      rw [Nat.mod_eq_of_lt c]; omega
    · rw [List.getElem_append_right (by simp; omega), List.getElem_take]
      congr 1
      simp only [Nat.zero_add, Nat.one_mul, List.length_drop]
      rw [Nat.mod_eq_sub_mod (by omega), Nat.mod_eq_of_lt (by omega)]
      omega
  unfold outT
  rw [e]
  refine (List.reverse_perm _).trans (List.perm_append_comm.trans ?_)
  rw [List.take_append_drop]
theorem turned_end {l m : List S27} {n : Int} (hl : l.length ≤ 200) (hp : m.Perm l) (ha : Apart l l.length) :
    Ev (fun k => (replay_Newest.f l n).bind fun a => ((replay_Newest.f m n).bind fun b => ((strakeref18_SameEntries.f k a.1 b.1).bind fun t => ((replay_Stale.f l n).bind fun p => ((replay_Stale.f m n).bind fun q => ((strakeref18_SameInts.f k p q).bind fun u => (if true = true then (if t = true then (if u = true then (some (a.2 == b.2)) else (some false)) else (some false)) else (some false)))))))) true := by
  have hml : m.length ≤ 200 := by rw [hp.length_eq]; exact hl
  by_cases h : 1 ≤ n ∧ n ≤ 4096
  · have hb : bestF l n = bestF m n := best_perm (fun x => (hp.mem_iff).symm) ha h.1 h.2
    have e1 : newestL m n = newestL l n := by unfold newestL; rw [hb]
    have e2 : mostL m n = mostL l n := by unfold mostL; rw [hb]
    rw [newest_yes h.1 h.2, newest_yes h.1 h.2, e1, e2, stale_yes h.1 h.2 (by omega), stale_yes h.1 h.2 (by omega), ← hb, sort_perm (raw_perm (bestF l n) n hp)]
    simp only [Option.bind_some]
    refine Ev.bind (sameE_is _ (by rw [newest_len]; omega)) (Ev.bind (sameI_is _ ?_) (evp (by first | rfl | trivial) (evp (by first | rfl | trivial) (evp (by first | rfl | trivial) ?_))))
    · have h1 := Lib.compact_length_le ((staleRaw (bestF l n) n l).mergeSort fun x y => decide (x ≤ y))
      have h2 := raw_len (bestF l n) n l
      rw [List.length_mergeSort] at h1
      omega
    · simp only [beq_self_eq_true]
      exact Ev.now _
  · rw [newest_no h, newest_no h, stale_no h, stale_no h]
    simp only [Option.bind_some]
    exact Ev.bind (sameE_is [] (by simp)) (Ev.bind (sameI_is [] (by simp)) (evp (by first | rfl | trivial) (evp (by first | rfl | trivial) (evp (by first | rfl | trivial) (Ev.now _)))))
theorem turned_loop {l : List S27} {n : Int} {k : Nat} (hl : l.length ≤ 200) (hk : k < l.length) (ha : Apart l l.length) : ∀ i : Nat, i ≤ l.length →
    Ev (fun q => strakelaw18_ReplayTurned.l0 q l n true (k : Int) (outT l k i) ((i : Int) - 1)) true := by
  intro i
  induction i with
  | zero =>
    intro _
    refine Ev.step (fun q => by rw [strakelaw18_ReplayTurned.l0, if_neg (by omega)]) ?_
    exact turned_end hl (outT_perm hk) ha
  | succ i ih =>
    intro hi
    have next := ih (by omega)
    rw [outT_step (show i < l.length by omega)] at next
    have e0 : ((i + 1 : Nat) : Int) - 1 = (i : Int) := by omega
    have e1 : wrap64 ((i : Int) + (k : Int)) = ((i + k : Nat) : Int) := by rw [wrap_in (by omega) (by omega)]; omega
    have e2 : Int.tmod (((i + k : Nat) : Int)) (l.length : Int) = (((i + k) % l.length : Nat) : Int) := by
      rw [Int.tmod_eq_emod_of_nonneg (by omega)]; exact (Int.natCast_emod (i + k) l.length).symm
    have e3 : wrap64 ((i : Int) - 1) = (i : Int) - 1 := wrap_in (by omega) (by omega)
    have hlt := Nat.mod_lt (i + k) (show 0 < l.length by omega)
    rw [e0]
    refine Ev.step (fun q => by rw [strakelaw18_ReplayTurned.l0]) ?_
    rw [e1, e2, e3]
    refine evp (by omega) (evn (by omega) (evp (by omega) (evp (by omega) (evp ?_ ?_))))
    · unfold outT; simp; omega
    · exact next
theorem ReplayTurned : strakelaw18_ReplayTurned.Pure := by
  intro l n turn hl hw hn ht
  refine Ev.rounds (g := fun k => strakelaw18_ReplayTurned.f k l n turn) ?_
  unfold strakelaw18_ReplayTurned.f
  rw [awake18_is]
  simp only [Option.bind_some]
  have yes : Ev (fun k => strakelaw18_ReplayTurned.j0 k l n turn true true) true :=
    Ev.step (f := fun _ => some true) (fun k => by rw [strakelaw18_ReplayTurned.j0, if_pos rfl]) (Ev.now _)
  by_cases c : (l.length : Int) > 200
  · exact evp c yes
  refine evn c ?_
  by_cases c0 : (l.length : Int) = 0
  · exact evp c0 yes
  refine evn c0 ?_
  by_cases c1 : turn < 0
  · rw [decide_eq_true c1]; exact yes
  rw [decide_eq_false c1]
  refine Ev.step (fun k => by rw [strakelaw18_ReplayTurned.j0, if_neg (by decide)]) ?_
  obtain ⟨r, hr, hp⟩ := apart_is l (by omega)
  refine Ev.bind hr ?_
  cases r with
  | false => exact evn (by decide) (Ev.now _)
  | true =>
    refine evp rfl (evn c0 ?_)
    obtain ⟨t, rfl⟩ := Int.eq_ofNat_of_zero_le (show 0 ≤ turn by omega)
    have e2 : Int.tmod (t : Int) (l.length : Int) = ((t % l.length : Nat) : Int) := by
      rw [Int.tmod_eq_emod_of_nonneg (by omega)]; exact (Int.natCast_emod t l.length).symm
    have hlt := Nat.mod_lt t (show 0 < l.length by omega)
    rw [e2, wrap_in (by omega) (by omega)]
    have := turned_loop (n := n) (by omega) hlt (hp rfl) l.length (Nat.le_refl _)
    unfold outT at this
    simpa using this
end Go.Proofs.Ytlheknapgonakaa.Pure
