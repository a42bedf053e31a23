/- What a page's sectors tell: Read in the program, over what Unpack tells. -/
import Derived.Test.YthoebkkohdfgeaaX13
import Derived.Test.YthoebkkohdfgeaaOobP1
namespace Go.Proofs.Ythoebkkohdfgeaa.Plain
open Go Go.RowKit Go.Proofs.Ythoebkkohdfgeaa.X Go.Proofs.YthoebkkohdfgeaaW.PrintWords Go.Proofs.YthoebkkohdfgeaaW.PrintMore

theorem Ev.one {α : Type} {g : Nat → Option α} {r s : α} (h : Ev g r) (h' : Ev g s) : r = s := by
  obtain ⟨K, hK⟩ := h
  obtain ⟨L, hL⟩ := h'
  have e1 := hK (K + L) (by omega)
  have e2 := hL (K + L) (by omega)
  rw [e1] at e2
  exact Option.some.inj e2
/-- what Unpack tells -/
noncomputable def un (b d : List Int) : Int × Int × Int × Int := open Classical in if h : ∃ r, Ev (fun k => oob_Unpack.f k b d) r then h.choose else (0, 0, 0, 0)
theorem un_eq {b d : List Int} {r : Int × Int × Int × Int} (h : Ev (fun k => oob_Unpack.f k b d) r) : un b d = r := by
  have hx : ∃ r, Ev (fun k => oob_Unpack.f k b d) r := ⟨r, h⟩
  unfold un
  rw [dif_pos hx]
  exact Ev.one hx.choose_spec h
theorem un_one {b d : List Int} (hb : Bytes b) (hd : Bytes d) (hl : d.length ≤ 140737488351232) : Ev (fun k => oob_Unpack.f k b d) (un b d) := by
  by_cases h : b.length = 17
  · obtain ⟨K, L, S, q, hK, hL, hS, hq, rfl⟩ := oshape hb h
    have h1 := unpack_is K L S q d hK hL hS hq hd hl
    rw [un_eq h1]
    exact h1
  · have h1 := unpack_not b d h
    rw [un_eq h1]
    exact h1
theorem un_pk {K L S : Int} (h : OR K L S) (d : List Int) (hd : Bytes d) (hl : d.length = 16) : un (pk K L S d) d = (K, L, S, 0) := un_eq (unpack_pk h d hd hl)

/-- what one sector tells -/
noncomputable def tells (i : Nat) (d b : List Int) : List S42 :=
  if (un b d).2.2.2 = 0 then (if (un b d).1 = 3 then [] else [⟨(i : Int), ⟨(un b d).1, (un b d).2.1, (un b d).2.2.1⟩, d⟩]) else []
/-- what sectors tell, the first of them being number i -/
noncomputable def told : Nat → List (List Int) → List (List Int) → List S42
  | i, d :: ds, b :: bs => tells i d b ++ told (i + 1) ds bs
  | _, _, _ => []
theorem tells_len (i : Nat) (d b : List Int) : (tells i d b).length ≤ 1 := by
  unfold tells; repeat' split
  all_goals simp
theorem told_len (i : Nat) (ds bs : List (List Int)) : (told i ds bs).length ≤ ds.length := by
  induction ds generalizing i bs with
  | nil => simp [told]
  | cons d ds ih =>
    cases bs with
    | nil => simp [told]
    | cons b bs =>
      simp only [told, List.length_append, List.length_cons]
      have := tells_len i d b; have := ih (i + 1) bs; omega
theorem told_step {i : Nat} {ds bs : List (List Int)} (h1 : i < ds.length) (h2 : i < bs.length) :
    told i (ds.drop i) (bs.drop i) = tells i ds[i] bs[i] ++ told (i + 1) (ds.drop (i + 1)) (bs.drop (i + 1)) := by
  rw [List.drop_eq_getElem_cons h1, List.drop_eq_getElem_cons h2, told]
theorem told_end {i : Nat} {ds bs : List (List Int)} (h : ¬ (i < ds.length ∧ i < bs.length)) : told i (ds.drop i) (bs.drop i) = [] := by
  by_cases h1 : i < ds.length
  · have : bs.drop i = [] := List.drop_eq_nil_of_le (by omega)
    rw [this]; cases ds.drop i <;> simp [told]
  · have : ds.drop i = [] := List.drop_eq_nil_of_le (by omega)
    rw [this]; simp [told]
theorem rd2_get {l : List (List Int)} {i : Nat} (h : i < l.length) : rd_L2 l (i : Int) = l[i] := by
  unfold rd_L2
  simp [h]
/-- rows of bytes, none too long -/
def Thin (l : List (List Int)) : Prop := ∀ y ∈ l, Bytes y ∧ y.length ≤ 1000
theorem Thin.at {l : List (List Int)} (h : Thin l) {i : Nat} (hi : i < l.length) : Bytes l[i] ∧ l[i].length ≤ 1000 := h _ (List.getElem_mem hi)

theorem read_loop (ds bs : List (List Int)) (hd : Thin ds) (hb : Thin bs) (hl : ds.length ≤ 1000) :
    ∀ (m i : Nat) (out : List S42), m + i = ds.length → i ≤ ds.length → out.length ≤ i →
      Ev (fun k => page_Read.l0 k ds bs out (mn (ds.length : Int) (bs.length : Int)) (i : Int)) (out ++ told i (ds.drop i) (bs.drop i)) := by
  intro m
  induction m with
  | zero =>
    intro i out hm hi ho
    rw [told_end (by omega), List.append_nil]
    refine Ev.step (f := fun _ => some out) (fun k => ?_) (Ev.now _)
    rw [page_Read.l0, if_neg]
    unfold mn; split <;> omega
  | succ m ih =>
    intro i out hm hi ho
    by_cases h2 : i < bs.length
    · have h1 : i < ds.length := by omega
      rw [told_step h1 h2]
      obtain ⟨hd1, hd2⟩ := hd.at h1
      obtain ⟨hb1, hb2⟩ := hb.at h2
      have next : ∀ o : List S42, o.length ≤ i + 1 → Ev (fun k => page_Read.l0 k ds bs o (mn (ds.length : Int) (bs.length : Int)) (wrap64 ((i : Int) + 1))) (o ++ told (i + 1) (ds.drop (i + 1)) (bs.drop (i + 1))) := by
        intro o ho'
        have := ih (i + 1) o (by omega) (by omega) ho'
        rw [wrap_in (by omega) (by omega)]
        exact_mod_cast this
      refine Ev.step (fun k => by rw [page_Read.l0]) ?_
      refine evp (by unfold mn; split <;> omega) (evp (by omega) (evp (by omega) (evp (by omega) ?_)))
      rw [rd2_get h1, rd2_get h2]
      refine Ev.bind (un_one hb1 hd1 (by omega)) ?_
      unfold tells
      by_cases he : (un bs[i] ds[i]).2.2.2 = 0
      · rw [if_pos he]
        refine evp he ?_
        by_cases hk : (un bs[i] ds[i]).1 = 3
        · rw [if_pos hk]
          exact evp hk (next out (by omega))
        · rw [if_neg hk]
          refine evn hk ?_
          simp only [Option.bind_some]
          refine evp (by simp; omega) (evp (by omega) ?_)
          rw [List.nil_append, ← List.append_assoc]
          exact next _ (by simp; omega)
      · rw [if_neg he]
        exact evn he (next out (by omega))
    · rw [told_end (by omega), List.append_nil]
      refine Ev.step (f := fun _ => some out) (fun k => ?_) (Ev.now _)
      rw [page_Read.l0, if_neg]
      unfold mn; split <;> omega
theorem read_is (ds bs : List (List Int)) (hd : Thin ds) (hb : Thin bs) (hl : ds.length ≤ 1000) : Ev (fun k => page_Read.f k ds bs) (told 0 ds bs) := by
  unfold page_Read.f
  exact read_loop ds bs hd hb hl ds.length 0 [] (by omega) (by omega) (by simp)

end Go.Proofs.Ythoebkkohdfgeaa.Plain
