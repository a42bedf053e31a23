/- What any sectors tell in the reference; two lists compared; sizes of rows. -/
import Derived.Test.YthoebkkohdfgeaaX13
import Derived.Test.YthoebkkohdfgeaaX29
import Derived.Test.YthoebkkohdfgeaaPage2
import Derived.Test.YthoebkkohdfgeaaOobP2
namespace Go.Proofs.Ythoebkkohdfgeaa.Plain
open Go Go.RowKit Go.Proofs.Ythoebkkohdfgeaa.X Go.Proofs.YthoebkkohdfgeaaW.PrintWords Go.Proofs.YthoebkkohdfgeaaW.PrintMore

theorem un_both {b d : List Int} (hb : Bytes b) (hd : Bytes d) (hl : d.length ≤ 140737488351232) :
    Ev (fun k => oob_Unpack.f k b d) (un b d) ∧ Ev (fun k => strakeref05_Unpack.f k b d) (un b d) := by
  by_cases h : b.length = 17
  · obtain ⟨K, L, S, q, hK, hL, hS, hq, rfl⟩ := oshape hb h
    have h1 := unpack_is K L S q d hK hL hS hq hd hl
    rw [un_eq h1]
    exact ⟨h1, runpack_is K L S q d hK hL hS hq hd⟩
  · have h1 := unpack_not b d h
    rw [un_eq h1]
    exact ⟨h1, runpack_not b d h⟩
theorem rread_loop (ds bs : List (List Int)) (hd : Thin ds) (hb : Thin bs) (hl : ds.length ≤ 1000) :
    ∀ (m i : Nat) (out : List S42), m + i = ds.length → i ≤ ds.length → out.length ≤ i →
      Ev (fun k => strakeref15_Read.l0 k ds bs out (i : Int)) (out ++ told i (ds.drop i) (bs.drop i)) := by
  intro m
  induction m with
  | zero =>
    intro i out hm hi ho
    rw [told_end (by omega), List.append_nil]
    refine Ev.step (fun k => by rw [strakeref15_Read.l0, if_neg (by omega)]) ?_
    exact Ev.step (f := fun _ => some out) (fun k => by rw [strakeref15_Read.j1, if_neg (by decide)]) (Ev.now _)
  | succ m ih =>
    intro i out hm hi ho
    have h1 : i < ds.length := by omega
    refine Ev.step (fun k => by rw [strakeref15_Read.l0, if_pos (by omega)]) ?_
    by_cases h2 : i < bs.length
    · rw [told_step h1 h2]
      obtain ⟨hd1, hd2⟩ := hd.at h1
      obtain ⟨hb1, hb2⟩ := hb.at h2
      have next : ∀ o : List S42, o.length ≤ i + 1 → Ev (fun k => strakeref15_Read.l0 k ds bs o (wrap64 ((i : Int) + 1))) (o ++ told (i + 1) (ds.drop (i + 1)) (bs.drop (i + 1))) := by
        intro o ho'
        have := ih (i + 1) o (by omega) (by omega) ho'
        rw [wrap_in (by omega) (by omega)]
        exact_mod_cast this
      refine Ev.step (fun k => by rw [strakeref15_Read.j1]) ?_
      refine evp (by rw [decide_eq_true_eq]; omega) (evp (by omega) (evp (by omega) (evp (by omega) ?_)))
      rw [rd2_get h1, rd2_get h2]
      refine Ev.bind (un_both hb1 hd1 (by omega)).2 ?_
      unfold tells
      by_cases he : (un bs[i] ds[i]).2.2.2 = 0
      · rw [if_pos he]
        refine evp he ?_
        by_cases hk : (un bs[i] ds[i]).1 = 3
        · rw [if_pos hk]
          exact evp hk (next out (by omega))
        · rw [if_neg hk]
          refine evn hk ?_
          simp only [Option.bind_some]
          refine evp (by simp; omega) (evp (by omega) ?_)
          rw [List.nil_append, ← List.append_assoc]
          exact next _ (by simp; omega)
      · rw [if_neg he]
        exact evn he (next out (by omega))
    · rw [told_end (by omega), List.append_nil]
      refine Ev.step (f := fun _ => some out) (fun k => ?_) (Ev.now _)
      rw [strakeref15_Read.j1, if_neg (by rw [decide_eq_true_eq]; omega)]
theorem rread_is (ds bs : List (List Int)) (hd : Thin ds) (hb : Thin bs) (hl : ds.length ≤ 1000) : Ev (fun k => strakeref15_Read.f k ds bs) (told 0 ds bs) := by
  unfold strakeref15_Read.f
  exact rread_loop ds bs hd hb hl ds.length 0 [] (by omega) (by omega) (by simp)
theorem rd42_get {l : List S42} {i : Nat} (h : i < l.length) : rd_T42 l (i : Int) = l[i] := by
  unfold rd_T42
  simp [h]
theorem sameFound_loop (l : List S42) (hl : l.length ≤ 1000000) : ∀ (m i : Nat), m + i = l.length → Ev (fun k => strakeref15_SameFound.l0 k l l (i : Int)) true := by
  intro m
  induction m with
  | zero =>
    intro i hm
    exact Ev.step (f := fun _ => some true) (fun k => by rw [strakeref15_SameFound.l0, if_neg (by omega)]) (Ev.now _)
  | succ m ih =>
    intro i hm
    have next := ih (i + 1) (by omega)
    refine Ev.step (fun k => by rw [strakeref15_SameFound.l0]) ?_
    refine evp (by omega) (evp (by omega) (evp (by omega) (evp rfl (evn (by simp) (evp rfl ?_)))))
    rw [wrap_in (by omega) (by omega)]
    exact_mod_cast next
theorem sameFound_is (l : List S42) (hl : l.length ≤ 1000000) : Ev (fun k => strakeref15_SameFound.f k l l) true := by
  unfold strakeref15_SameFound.f
  exact evp rfl (sameFound_loop l hl l.length 0 (by omega))
theorem short_loop (l : List (List Int)) (hl : l.length ≤ 9223372036854775807) : ∀ (m i : Nat), m + i = l.length → (∀ y ∈ l.take i, y.length ≤ 1000) →
    Ev (fun k => strakelaw15_short.l0 k l (i : Int)) (decide ((∀ y ∈ l, y.length ≤ 1000) ∧ l.length ≤ 100)) := by
  intro m
  induction m with
  | zero =>
    intro i hm h
    rw [List.take_of_length_le (by omega)] at h
    refine Ev.step (f := fun _ => some (decide ((∀ y ∈ l, y.length ≤ 1000) ∧ l.length ≤ 100))) (fun k => ?_) (Ev.now _)
    rw [strakelaw15_short.l0, if_neg (by omega)]
    refine congrArg some (decide_eq_decide.2 ⟨fun h' => ⟨h, by omega⟩, fun h' => by have := h'.2; omega⟩)
  | succ m ih =>
    intro i hm h
    have hi : i < l.length := by omega
    refine Ev.step (fun k => by rw [strakelaw15_short.l0]) ?_
    refine evp (by omega) (evp (by omega) ?_)
    rw [rd2_get hi]
    by_cases hg : l[i].length ≤ 1000
    · refine evn (by omega) ?_
      have next := ih (i + 1) (by omega) (fun y hy => by
        rw [List.take_succ_eq_append_getElem hi, List.mem_append, List.mem_singleton] at hy
        rcases hy with hy | rfl
        · exact h y hy
        · exact hg)
      rw [wrap_in (by omega) (by omega)]
      exact_mod_cast next
    · refine evp (by omega) ?_
      rw [decide_eq_false (fun h' => hg (h'.1 _ (List.getElem_mem hi)))]
      exact Ev.now _
theorem short_is (l : List (List Int)) (hl : l.length ≤ 9223372036854775807) : Ev (fun k => strakelaw15_short.f k l) (decide ((∀ y ∈ l, y.length ≤ 1000) ∧ l.length ≤ 100)) := by
  unfold strakelaw15_short.f
  exact short_loop l hl l.length 0 (by omega) (by simp)
end Go.Proofs.Ythoebkkohdfgeaa.Plain
