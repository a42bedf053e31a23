/- If one sector's bytes, or those beside it, are turned, that one is not told, and all others are. No condition. -/
import Derived.Test.YthoebkkohdfgeaaX1
import Derived.Test.YthoebkkohdfgeaaX13
import Derived.Test.YthoebkkohdfgeaaX16
import Derived.Test.YthoebkkohdfgeaaTurnedW
import Derived.Test.YthoebkkohdfgeaaSlotsRead
import Derived.Test.YthoebkkohdfgeaaPage3
import Derived.Test.YthoebkkohdfgeaaOobT
namespace Go.Proofs.Ythoebkkohdfgeaa.Pure
open Go Go.RowKit Go.Proofs.Ythoebkkohdfgeaa.X Go.Proofs.Ythoebkkohdfgeaa.Plain Go.Proofs.YthoebkkohdfgeaaW.PrintWords Go.Proofs.YthoebkkohdfgeaaW.PrintMore

theorem toldT_len (l : List S38) : ∀ i, (toldOf i l).length = l.length := by
  induction l with
  | nil => intro i; rfl
  | cons s l ih => intro i; simp [toldOf, ih]
theorem toldT_at (l : List S38) : ∀ (j i : Nat) (h : i < l.length), (toldOf j l)[i]'(by rw [toldT_len]; exact h) = ⟨((j + i : Nat) : Int), ⟨l[i].f0, l[i].f1, l[i].f2⟩, sec l[i]⟩ := by
  induction l with
  | nil => intro j i h; simp at h
  | cons s l ih =>
    intro j i h
    cases i with
    | zero => rfl
    | succ i =>
      simp only [toldOf, List.getElem_cons_succ]
      rw [ih (j + 1) i (by simpa using h)]
      have e : j + 1 + i = j + (i + 1) := by omega
      rw [e]
theorem told_turned (m : Nat) (dr br : List Int) : ∀ (l : List S38) (a i : Nat), a < l.length → Slots l → (∀ s ∈ l, Plain.Good s) → tells (i + a) dr br = [] →
    told i ((l.map sec ++ List.replicate m (List.replicate 16 0)).set a dr) ((l.map (fun s => pk s.f0 s.f1 s.f2 (sec s)) ++ List.replicate m pad).set a br) = (toldOf i l).eraseIdx a := by
  intro l
  induction l with
  | nil => intro a i h; simp at h
  | cons s l ih =>
    intro a i h hs hg ht
    have hs' : Slots l := fun t ht => hs t (by simp [ht])
    have hg' : ∀ t ∈ l, Plain.Good t := fun t ht => hg t (by simp [ht])
    cases a with
    | zero =>
      simp only [List.map_cons, List.cons_append, List.set_cons_zero, told, toldOf, List.eraseIdx_cons_zero]
      rw [Nat.add_zero] at ht
      rw [ht, told_built m l (i + 1) hs' hg']
      rfl
    | succ a =>
      simp only [List.map_cons, List.cons_append, List.set_cons_succ, told, toldOf, List.eraseIdx_cons_succ]
      rw [ih a (i + 1) (by simpa using h) hs' hg' (by rw [show i + 1 + a = i + (a + 1) by omega]; exact ht)]
      have g := hg s (by simp)
      unfold tells
      rw [un_pk g.1 _ (sec_bytes (hs s (by simp)).1) g.2.1]
      have : ¬ s.f0 = 3 := by have := g.2.2; omega
      simp only [if_neg this, if_true]
      rfl
theorem Thin.set {l : List (List Int)} (h : Thin l) (a : Nat) {r : List Int} (hb : Bytes r) (hl : r.length ≤ 1000) : Thin (l.set a r) := by
  intro y hy
  rcases List.mem_or_eq_of_mem_set hy with hy | rfl
  · exact h y hy
  · exact ⟨hb, hl⟩
theorem setB {l : List Int} (h : Bytes l) (j : Nat) {v : Int} (hv : 0 ≤ v ∧ v < 256) : Bytes (l.set j v) := by
  intro z hz
  rcases List.mem_or_eq_of_mem_set hz with hz | rfl
  · exact h z hz
  · exact hv
theorem dat_slot {n : Nat} {l : List S38} {a : Nat} (h : a < l.length) (h2 : a < (dat n l).length) : (dat n l)[a] = sec l[a] := by
  unfold dat at h2 ⊢; rw [List.getElem_append_left (by simpa using h)]; simp
theorem bes_slot {n : Nat} {l : List S38} {a : Nat} (h : a < l.length) (h2 : a < (bes n l).length) : (bes n l)[a] = pk l[a].f0 l[a].f1 l[a].f2 (sec l[a]) := by
  unfold bes at h2 ⊢; rw [List.getElem_append_left (by simpa using h)]; simp
/-- one sector's row, turned -/
theorem tells_turned {s : S38} (hs : Bytes s.f3) (g : Plain.Good s) (i j : Nat) (hj : j < 33) (w : Int) (hw : w % 256 ≠ 0) :
    (j < 16 → tells i (turnedRow (sec s) (j : Int) w) (pk s.f0 s.f1 s.f2 (sec s)) = []) ∧ (¬ j < 16 → tells i (sec s) (turnedRow (pk s.f0 s.f1 s.f2 (sec s)) ((j : Int) - 16) w) = []) := by
  have hp := pk_len s.f0 s.f1 s.f2 (sec s)
  have hd := sec_bytes hs
  have key : ∀ (p : Nat) (hp33 : p < 33) (y : List Int) (q : Nat) (hq : q < y.length) (e : (pk s.f0 s.f1 s.f2 (sec s) ++ sec s)[p]? = some (y[q])), 
      un (((pk s.f0 s.f1 s.f2 (sec s) ++ sec s).set p (bits .xor .u8 (rd y (q : Int)) (w % 256))).take 17) (((pk s.f0 s.f1 s.f2 (sec s) ++ sec s).set p (bits .xor .u8 (rd y (q : Int)) (w % 256))).drop 17) = (0, 0, 0, 3) ∨
      un (((pk s.f0 s.f1 s.f2 (sec s) ++ sec s).set p (bits .xor .u8 (rd y (q : Int)) (w % 256))).take 17) (((pk s.f0 s.f1 s.f2 (sec s) ++ sec s).set p (bits .xor .u8 (rd y (q : Int)) (w % 256))).drop 17) = (0, 0, 0, 4) := by
    intro p hp33 y q hq e
    have hvr := bits_lo (rd y (q : Int)) (w % 256)
    have hvn := bits_ne (rd y (q : Int)) (w % 256) (by omega) hw
    rw [rd_get hq] at hvr hvn ⊢
    obtain ⟨f, hf, hu⟩ := turned_told s.f0 s.f1 s.f2 (sec s) g.1 hd g.2.1 p hp33 _ hvr (fun hh e2 => hvn (by rw [e2]; rw [List.getElem?_eq_getElem hh] at e; exact Option.some.inj e))
    rw [un_eq hu]
    rcases hf with rfl | rfl
    · exact .inl rfl
    · exact .inr rfl
  have none_ : ∀ {d b : List Int}, un b d = (0, 0, 0, 3) ∨ un b d = (0, 0, 0, 4) → tells i d b = [] := by
    intro d b h
    unfold tells
    rw [if_neg]
    rcases h with h | h <;> rw [h] <;> decide
  constructor
  · intro h16
    have hq : j < (sec s).length := by rw [g.2.1]; exact h16
    have k := key (17 + j) (by omega) (sec s) j hq (by rw [List.getElem?_append_right (by omega), hp, show 17 + j - 17 = j by omega, List.getElem?_eq_getElem hq])
    rw [List.set_append_right _ _ (by omega), hp, show 17 + j - 17 = j by omega, List.take_left' hp, List.drop_left' hp] at k
    apply none_
    unfold turnedRow
    rw [Int.toNat_natCast]
    exact k
  · intro h16
    have hq : j - 16 < (pk s.f0 s.f1 s.f2 (sec s)).length := by rw [hp]; omega
    have k := key (j - 16) (by omega) (pk s.f0 s.f1 s.f2 (sec s)) (j - 16) hq (by rw [List.getElem?_append_left hq, List.getElem?_eq_getElem hq])
    rw [List.set_append_left _ _ hq, List.take_left' (by rw [List.length_set]; exact hp), List.drop_left' (by rw [List.length_set]; exact hp)] at k
    apply none_
    unfold turnedRow
    rw [show ((j : Int) - 16) = ((j - 16 : Nat) : Int) by omega, Int.toNat_natCast]
    exact k
theorem PageTurned (n x0 x1 x2 : Int) (l : List S38) (hl : l.length ≤ maxLen) (hw : ∀ s ∈ l, slotOk s) : ∃ (k : Nat) (ts : Bool), strakelaw15_awake.f k = some true ∧ strakelaw15_slim.f k l = some ts ∧
    (ts = true → ¬ x0 < 0 → ¬ x1 < 0 → ¬ x2 % 256 = 0 → ∃ (d b : List (List Int)) (e : Int), page_Build.f k n l = some (d, b, e) ∧ (e = 0 → (d.length : Int) = n ∧ (b.length : Int) = n ∧ 0 < l.length ∧ l.length ≤ d.length ∧ n ≤ 4 ∧ (rd_L2 d (Int.tmod x0 l.length)).length = 16 ∧ (rd_L2 b (Int.tmod x0 l.length)).length = 17 ∧
      ∃ r : List S42, page_Read.f k (turnedD d (Int.tmod x0 l.length) (Int.tmod x1 33) x2) (turnedB b (Int.tmod x0 l.length) (Int.tmod x1 33) x2) = some r ∧ r.length + 1 = l.length ∧ ∀ i : Nat, i < r.length → (rd_T42 r (i : Int)).f0 = (wantOf (Int.tmod x0 l.length) i : Int) ∧ (rd_T42 r (i : Int)).f1.f1 = (rd_T38 l (wantOf (Int.tmod x0 l.length) i : Int)).f1 ∧ (rd_T42 r (i : Int)).f1.f2 = (rd_T38 l (wantOf (Int.tmod x0 l.length) i : Int)).f2)) := by
  unfold maxLen at hl
  obtain ⟨K1, h1⟩ := awake15_is
  obtain ⟨K2, h2⟩ := slim_is l (by omega)
  by_cases hc : ((∀ y ∈ l, y.f3.length ≤ 1000) ∧ l.length ≤ 100) ∧ ¬ x0 < 0 ∧ ¬ x1 < 0 ∧ ¬ x2 % 256 = 0
  · obtain ⟨⟨c1, c2⟩, c3, c4, c5⟩ := hc
    have hs : Slots l := fun s hs => ⟨bytes_of (hw s hs).2.2.2.2.1, c1 s hs⟩
    obtain ⟨K3, h3⟩ := build_is n l hs
    by_cases hm : May n l
    · rw [built_yes hm] at h3
      have m1 := hm.1
      have m4 := hm.2.1
      have ml := hm.2.2.2.1
      have mg := hm.2.2.2.2
      have hpos : 0 < l.length := List.length_pos_iff.2 hm.2.2.1
      have ld : (dat n.toNat l).length = n.toNat := by unfold dat; simp; omega
      have lb : (bes n.toNat l).length = n.toNat := by unfold bes; simp; omega
      obtain ⟨a, ha⟩ : ∃ a : Nat, Int.tmod x0 l.length = (a : Int) := ⟨(x0 % l.length).toNat, by rw [Int.tmod_eq_emod_of_nonneg (by omega)]; have := Int.emod_nonneg x0 (show (l.length : Int) ≠ 0 by omega); omega⟩
      have hal : a < l.length := by
        have := Int.tmod_lt_of_pos x0 (show (0 : Int) < l.length by omega)
        rw [ha] at this; omega
      obtain ⟨j, hj⟩ : ∃ j : Nat, Int.tmod x1 33 = (j : Int) := ⟨(x1 % 33).toNat, by rw [Int.tmod_eq_emod_of_nonneg (by omega)]; omega⟩
      have hj33 : j < 33 := by
        have := Int.tmod_lt_of_pos x1 (show (0 : Int) < 33 by decide)
        rw [hj] at this; omega
      rw [ha, hj]
      have had : a < (dat n.toNat l).length := by omega
      have hab : a < (bes n.toNat l).length := by omega
      have ed : rd_L2 (dat n.toNat l) (a : Int) = sec l[a] := by rw [rd2_get had, dat_slot hal had]
      have eb : rd_L2 (bes n.toNat l) (a : Int) = pk l[a].f0 l[a].f1 l[a].f2 (sec l[a]) := by rw [rd2_get hab, bes_slot hal hab]
      have ga := mg _ (List.getElem_mem hal)
      have ba := (hs _ (List.getElem_mem hal)).1
      obtain ⟨t1, t2⟩ := tells_turned ba ga a j hj33 x2 c5
      -- what is read of it
      have hread : ∃ r : List S42, r = (toldOf 0 l).eraseIdx a ∧ Ev (fun k => page_Read.f k (turnedD (dat n.toNat l) (a : Int) (j : Int) x2) (turnedB (bes n.toNat l) (a : Int) (j : Int) x2)) r := by
        refine ⟨_, rfl, ?_⟩
        have hv : ∀ (y : List Int) (q : Int), 0 ≤ bits .xor .u8 (rd y q) (x2 % 256) ∧ bits .xor .u8 (rd y q) (x2 % 256) < 256 := fun y q => bits_lo _ _
        by_cases h16 : j < 16
        · have e1 : turnedD (dat n.toNat l) (a : Int) (j : Int) x2 = (dat n.toNat l).set a (turnedRow (sec l[a]) (j : Int) x2) := by
            unfold turnedD; rw [if_pos (by omega), ed, Int.toNat_natCast]
          have e2 : turnedB (bes n.toNat l) (a : Int) (j : Int) x2 = (bes n.toNat l).set a (pk l[a].f0 l[a].f1 l[a].f2 (sec l[a])) := by
            unfold turnedB; rw [if_pos (by omega)]
            conv => lhs; rw [← List.set_getElem_self hab]
            rw [bes_slot hal hab]
          rw [e1, e2]
          have r := read_is ((dat n.toNat l).set a (turnedRow (sec l[a]) (j : Int) x2)) ((bes n.toNat l).set a (pk l[a].f0 l[a].f1 l[a].f2 (sec l[a])))
            (Thin.set (dat_rows hs) a (setB (sec_bytes ba) _ (hv _ _)) (by unfold turnedRow; rw [List.length_set, ga.2.1]; decide))
            (Thin.set (bes_rows mg) a (pk_bytes ga.1.K _ _ _) (by rw [pk_len]; decide)) (by rw [List.length_set]; omega)
          have t := told_turned (n.toNat - l.length) (turnedRow (sec l[a]) (j : Int) x2) (pk l[a].f0 l[a].f1 l[a].f2 (sec l[a])) l a 0 hal hs mg (by rw [Nat.zero_add]; exact t1 h16)
          unfold dat bes at r ⊢
          rw [t] at r
          exact r
        · have e1 : turnedD (dat n.toNat l) (a : Int) (j : Int) x2 = (dat n.toNat l).set a (sec l[a]) := by
            unfold turnedD; rw [if_neg (by omega)]
            conv => lhs; rw [← List.set_getElem_self had]
            rw [dat_slot hal had]
          have e2 : turnedB (bes n.toNat l) (a : Int) (j : Int) x2 = (bes n.toNat l).set a (turnedRow (pk l[a].f0 l[a].f1 l[a].f2 (sec l[a])) ((j : Int) - 16) x2) := by
            unfold turnedB; rw [if_neg (by omega), eb, Int.toNat_natCast]
          rw [e1, e2]
          have r := read_is ((dat n.toNat l).set a (sec l[a])) ((bes n.toNat l).set a (turnedRow (pk l[a].f0 l[a].f1 l[a].f2 (sec l[a])) ((j : Int) - 16) x2))
            (Thin.set (dat_rows hs) a (sec_bytes ba) (by rw [ga.2.1]; decide))
            (Thin.set (bes_rows mg) a (setB (pk_bytes ga.1.K _ _ _) _ (hv _ _)) (by unfold turnedRow; rw [List.length_set, pk_len]; decide)) (by rw [List.length_set]; omega)
          have t := told_turned (n.toNat - l.length) (sec l[a]) (turnedRow (pk l[a].f0 l[a].f1 l[a].f2 (sec l[a])) ((j : Int) - 16) x2) l a 0 hal hs mg (by rw [Nat.zero_add]; exact t2 h16)
          unfold dat bes at r ⊢
          rw [t] at r
          exact r
      obtain ⟨r, hr, K4, h4⟩ := hread
      have hlen : r.length + 1 = l.length := by
        rw [hr, List.length_eraseIdx_of_lt (by rw [toldT_len]; exact hal), toldT_len]; omega
      refine ⟨K1 + K2 + K3 + K4, _, h1 _ (by omega), h2 _ (by omega), fun _ _ _ _ => ⟨_, _, _, h3 _ (by omega), fun _ => ⟨by omega, by omega, hpos, by omega, m4, by rw [ed]; exact ga.2.1, by rw [eb]; exact pk_len _ _ _ _, r, h4 _ (by omega), hlen, ?_⟩⟩⟩
      intro i hi
      have hwl : wantOf (a : Int) i < l.length := by unfold wantOf; split <;> omega
      have ei : rd_T42 r (i : Int) = ⟨((wantOf (a : Int) i : Nat) : Int), ⟨l[wantOf (a : Int) i].f0, l[wantOf (a : Int) i].f1, l[wantOf (a : Int) i].f2⟩, sec l[wantOf (a : Int) i]⟩ := by
        have e0 : rd_T42 r (i : Int) = r[i] := by unfold rd_T42; simp [hi]
        rw [e0]
        subst hr
        rw [List.getElem_eraseIdx]
        unfold wantOf
        by_cases hia : i < a
        · simp only [dif_pos hia, if_neg (show ¬ (a : Int) ≤ (i : Int) by omega)]
          rw [toldT_at l 0 i (by omega)]
          simp
        · simp only [dif_neg hia, if_pos (show (a : Int) ≤ (i : Int) by omega)]
          rw [toldT_at l 0 (i + 1) (by omega)]
          simp
      rw [ei, rd38_get hwl]
      exact ⟨rfl, rfl, rfl⟩
    · rw [built_no hm] at h3
      exact ⟨K1 + K2 + K3, _, h1 _ (by omega), h2 _ (by omega), fun _ _ _ _ => ⟨_, _, _, h3 _ (by omega), fun h => absurd h (by decide)⟩⟩
  · refine ⟨K1 + K2, _, h1 _ (by omega), h2 _ (by omega), fun ht a1 a2 a3 => ?_⟩
    exact absurd ⟨of_decide_eq_true ht, a1, a2, a3⟩ hc
end Go.Proofs.Ythoebkkohdfgeaa.Pure
