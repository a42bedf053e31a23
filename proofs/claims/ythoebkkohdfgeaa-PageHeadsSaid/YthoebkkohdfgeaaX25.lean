-- laid by wip/tools/xprint.py (our own changes over the printer)
import Derived.Test.YthoebkkohdfgeaaX0
import Derived.Test.YthoebkkohdfgeaaX17
namespace Go.Proofs.Ythoebkkohdfgeaa.X
open Go.RowKit Go.Proofs.YthoebkkohdfgeaaW.PrintWords Go.Proofs.YthoebkkohdfgeaaW.PrintLast Go.Proofs.YthoebkkohdfgeaaW.PrintMore
attribute [local go_sem] max2_int min2_int max_two min_two max_three min_three max_four min_four   -- for this text's walks alone
set_option linter.unusedVariables false
set_option linter.unusedSimpArgs false

/-! ### strakeref15_filled: function 27 -/
def strakeref15_filled.l0 : Nat → Int → List (List Int) → List (List Int) → List Int → Option (List (List Int) × List (List Int))
  | 0, _, _, _, _ => none
  | k + 1, n, x1, x2, p => if (x1.length : Int) < n then (if x1.length < 5864062014805 then (if p.length < 140737488355328 then (if x2.length < 5864062014805 then strakeref15_filled.l0 k n (x1 ++ [List.replicate 16 0]) (x2 ++ [p]) p else none) else none) else none) else some (x1, x2)
def strakeref15_filled.f (k : Nat) (n : Int) (l1 l2 : List (List Int)) : Option (List (List Int) × List (List Int)) := (strakeref05_Pack.f k 3 0 0 (List.replicate 16 0)).bind fun b => strakeref15_filled.l0 k n l1 l2 b.1
theorem strakeref15_filled.mono_l : ∀ k n x1 x2 p, LeO (strakeref15_filled.l0 k n x1 x2 p) (strakeref15_filled.l0 (k + 1) n x1 x2 p) := by
  intro k
  induction k with
  | zero => intro n x1 x2 p r h; simp [strakeref15_filled.l0] at h
  | succ k ih =>
    intro n x1 x2 p r h
    rw [strakeref15_filled.l0] at h ⊢
    by_cases c : (x1.length : Int) < n
    · rw [if_pos c] at h ⊢
      by_cases c2 : x1.length < 5864062014805
      · rw [if_pos c2] at h ⊢
        by_cases c4 : p.length < 140737488355328
        · rw [if_pos c4] at h ⊢
          by_cases c3 : x2.length < 5864062014805
          · rw [if_pos c3] at h ⊢
            exact ih _ _ _ _ _ h
          · rw [if_neg c3] at h
            exact absurd h (by simp)
        · rw [if_neg c4] at h
          exact absurd h (by simp)
      · rw [if_neg c2] at h
        exact absurd h (by simp)
    · rw [if_neg c] at h ⊢
      exact h
theorem strakeref15_filled.mono : ∀ n l1 l2 k, LeO (strakeref15_filled.f k n l1 l2) (strakeref15_filled.f (k + 1) n l1 l2) := by
  intro n l1 l2 k r h
  unfold strakeref15_filled.f at h ⊢
  obtain ⟨t, ht, h⟩ := Option.bind_eq_some_iff.mp h
  rw [strakeref05_Pack.mono _ _ _ _ _ _ ht, Option.bind_some]
  exact strakeref15_filled.mono_l _ _ _ _ _ _ h
set_option maxHeartbeats 2000000 in
set_option maxRecDepth 100000 in
theorem strakeref15_filled.calls (k : Nat) (n : Int) (u1 u2 : Value) (l1 l2 r1 r2 : List (List Int)) (w0 w : World) (hB : Below w0.heap.size w0 w) (ho1 : Kd.S (Kd.slice 5 (Kd.int .u8)) 36 w w0.heap.size (fun k_ => some k_ ≠ (u2 : Value).ownBlock) u1 l1) (ho2 : Kd.S (Kd.slice 5 (Kd.int .u8)) 36 w w0.heap.size (fun k_ => some k_ ≠ (u1 : Value).ownBlock) u2 l2) (h : strakeref15_filled.f k n l1 l2 = some (r1, r2)) :
    Calls Try.prog 27 #[.int .i64 n, u1, u2] w fun e w' => ∃ v0_ v1_ : Value, e = .returned (.tuple #[v0_, v1_]) ∧ Kd.S (Kd.slice 5 (Kd.int .u8)) 36 w' w0.heap.size (fun k_ => some k_ ≠ (v1_ : Value).ownBlock) v0_ r1 ∧ Kd.S (Kd.slice 5 (Kd.int .u8)) 36 w' w0.heap.size (fun k_ => some k_ ≠ (v0_ : Value).ownBlock) v1_ r2 ∧ Below w0.heap.size w0 w' := by
  unfold strakeref15_filled.f at h
  obtain ⟨⟨p, pe⟩, hp, h⟩ := Option.bind_eq_some_iff.mp h
  obtain ⟨Z, hZ⟩ : ∃ L : List Int, L = List.replicate 16 0 := ⟨_, rfl⟩
  rw [← hZ] at hp
  have NZ := Aside0.mk hZ
  have HP := Aside0.mk hp
  have H' := Aside0.mk (show strakeref15_filled.l0 k n l1 l2 p = some (r1, r2) from h)
  have HO1 := Aside0.mk ho1
  have HO2 := Aside0.mk ho2
  have HB := Aside0.mk hB
  clear ho1 ho2 hB h hp hZ
  have hu40 := Try.underlying40
  go_enter Try.func27, Try.ntmps27
  go_wp2_with (first
    | ((with_reducible refine gate_dst (N := 12) rfl ?_); refine Kd.R_make (Kd.int .u8) _ 5 rfl (N := 12) rfl 36 _ _ rfl 16 rfl rfl Try.underlying36 (.int .u8 0) 1 info5 rfl (by decide) (by omega) 0 (ok := fun _ => True) (okp := fun _ => True) rfl (fun _ hk => hk) trivial (by omega) (by omega) (Below.refl _ _) (Nat.le_refl _) ?_; intro v1 w1 ho hb hg_ hnew_; clear hg_ hnew_; (first | rw [← NZ.out] at ho | (simp only [Int.reduceToNat] at ho; rw [← NZ.out] at ho)); have hl_ := Kd.R_base ho; have n1_ : Aside0 (Kd.S (Kd.slice 5 (Kd.int .u8)) 36 w1 w0.heap.size (fun k_ => some k_ ≠ (u2 : Value).ownBlock ∧ some k_ ≠ (v1 : Value).ownBlock) u1 l1) := Aside0.mk (Kd.S_mono (Kd.S_old (by (with_reducible repeat (first | apply Kd.S_alloc | apply Kd.S_drewN | apply Kd.S_drew)); exact HO1.out) hb) (fun k_ hk => ⟨hk.1, fun e_ => (by have := hl_ k_ e_.symm; have := hk.2; omega)⟩)); have n2_ : Aside0 (Kd.S (Kd.slice 5 (Kd.int .u8)) 36 w1 w0.heap.size (fun k_ => some k_ ≠ (u1 : Value).ownBlock ∧ some k_ ≠ (v1 : Value).ownBlock) u2 l2) := Aside0.mk (Kd.S_mono (Kd.S_old (by (with_reducible repeat (first | apply Kd.S_alloc | apply Kd.S_drewN | apply Kd.S_drew)); exact HO2.out) hb) (fun k_ hk => ⟨hk.1, fun e_ => (by have := hl_ k_ e_.symm; have := hk.2; omega)⟩)); have n3_ := Aside0.mk (Kd.R_lower ho (HB.out.size)); have n5_ := Aside0.mk (below_then HB.out HB.out.size hb); clear HO1 HO2 HB hb ho hl_; have HO1 := n1_; have HO2 := n2_; have HZ := n3_; have HB := n5_; clear n1_ n2_ n3_ n5_; obtain ⟨Az, cz, ez⟩ := Kd.R_slice HZ.out; subst ez)
    | ((with_reducible refine gate_dst (N := 13) rfl ?_); refine goesL_ (some 13) rfl rfl Try.func25 (by kernel_rfl) rfl #[.agg #[.int .i64 3, .int .i64 0, .int .i64 0], .slice Az Z.length cz] rfl (by (try simp only [List.map_toArray, List.map_cons, List.map_nil]); first | done | rfl) ?_; (with_reducible refine (strakeref05_Pack.calls k 3 0 0 Az cz Z p pe _ ?side1 ?side2 HP.out).mono ?_); (case side1 => exact (by (with_reducible repeat (first | (refine Kd.C_alloc ?_ _) | (refine Kd.C_drewN ?_ _) | (refine Kd.C_drew ?_))); exact (Kd.R_reads' HZ.out).2.2)); (case side2 => exact (Kd.R_reads' HZ.out).2.1); rintro e w2 ⟨vp, rfl, ho, hb⟩; refine ⟨_, rfl, ?_⟩; have hl_ := Kd.R_base ho; have n1_ : Aside0 (Kd.S (Kd.slice 5 (Kd.int .u8)) 36 w2 w0.heap.size (fun k_ => some k_ ≠ (u2 : Value).ownBlock) u1 l1) := Aside0.mk (Kd.S_mono (Kd.S_old (ok := (fun k_ => some k_ ≠ (u2 : Value).ownBlock ∧ some k_ ≠ ((.slice Az Z.length cz) : Value).ownBlock)) (by (with_reducible repeat (first | apply Kd.S_alloc | apply Kd.S_drewN | apply Kd.S_drew)); exact HO1.out) hb) (fun k_ hk => hk.1.1)); have n2_ : Aside0 (Kd.S (Kd.slice 5 (Kd.int .u8)) 36 w2 w0.heap.size (fun k_ => some k_ ≠ (u1 : Value).ownBlock) u2 l2) := Aside0.mk (Kd.S_mono (Kd.S_old (ok := (fun k_ => some k_ ≠ (u1 : Value).ownBlock ∧ some k_ ≠ ((.slice Az Z.length cz) : Value).ownBlock)) (by (with_reducible repeat (first | apply Kd.S_alloc | apply Kd.S_drewN | apply Kd.S_drew)); exact HO2.out) hb) (fun k_ hk => hk.1.1)); have n3_ := Aside0.mk (Kd.R_lower (Kd.R_new' (Kd.R_new' ho (Kd.S_lt (by (with_reducible repeat (first | apply Kd.S_alloc | apply Kd.S_drewN | apply Kd.S_drew)); exact HO1.out))) (Kd.S_lt (by (with_reducible repeat (first | apply Kd.S_alloc | apply Kd.S_drewN | apply Kd.S_drew)); exact HO2.out))) HB.out.size); have n5_ := Aside0.mk (below_then HB.out HB.out.size hb); clear HO1 HO2 HB HZ hb ho hl_; have HO1 := n1_; have HO2 := n2_; have HV := n3_; have HB := n5_; clear n1_ n2_ n3_ n5_))
  go_loopg [1, 2] k (fun kq v1 v2 w' => ∃ (x1 x2 : List (List Int)), Aside0 (strakeref15_filled.l0 kq n x1 x2 p = some (r1, r2)) ∧ Aside0 (kq ≤ k) ∧ Aside0 (Kd.S (Kd.slice 5 (Kd.int .u8)) 36 w' w0.heap.size (fun k_ => some k_ ≠ (v2 : Value).ownBlock) v1 x1) ∧ Aside0 (Kd.S (Kd.slice 5 (Kd.int .u8)) 36 w' w0.heap.size (fun k_ => some k_ ≠ (v1 : Value).ownBlock) v2 x2) ∧ Aside0 (Kd.R (Kd.int .u8) 5 w' w0.heap.size (fun k_ => some k_ ≠ (v1 : Value).ownBlock ∧ some k_ ≠ (v2 : Value).ownBlock) vp p) ∧ Aside0 (Below w0.heap.size w0 w'))
  case atStart => exact ⟨l1, l2, H', ⟨Nat.le_refl _⟩, ⟨by (with_reducible repeat (first | apply Kd.S_alloc | apply Kd.S_drewN | apply Kd.S_drew)); exact HO1.out⟩, ⟨by (with_reducible repeat (first | apply Kd.S_alloc | apply Kd.S_drewN | apply Kd.S_drew)); exact HO2.out⟩, ⟨by (with_reducible repeat (first | apply Kd.R_alloc | apply Kd.R_drewN | apply Kd.R_drew)); exact Kd.R_mono HV.out (fun _ hk => ⟨hk.1.2, hk.2⟩)⟩, ⟨by repeat (first | (with_reducible first | exact HB.out | apply below_alloc | apply pw_below_drewN | apply below_drew1) | exact HB.out)⟩⟩
  case round =>
    clear H'
    obtain ⟨x1, x2, HA, HK1, HO_1, HO_2, HV, HB⟩ := hrel
    cases gk with
    | zero => exact absurd HA.out (by simp [strakeref15_filled.l0])
    | succ k1 =>
      have H := HA.out
      clear HA
      simp only [strakeref15_filled.l0] at H
      by_cases c1 : (x1.length : Int) < n
      · rw [if_pos c1] at H
        have c1b : decide ((x1.length : Int) < n) = true := decide_eq_true c1
        clear c1
        by_cases c2 : x1.length < 5864062014805
        · rw [if_pos c2] at H
          have L1 := Aside0.mk c2
          clear c2
          by_cases c4 : p.length < 140737488355328
          · rw [if_pos c4] at H
            have L3 := Aside0.mk c4
            clear c4
            by_cases c3 : x2.length < 5864062014805
            · rw [if_pos c3] at H
              have L2 := Aside0.mk c3
              clear c3
              obtain ⟨ya, hya⟩ : ∃ L : List Int, L = List.replicate 16 0 := ⟨_, rfl⟩
              rw [← hya] at H
              have NA := Aside0.mk hya
              have H' := Aside0.mk H
              clear H hya
              obtain ⟨A1, cp1, e1⟩ := Kd.S_slice HO_1.out
              subst e1
              obtain ⟨Ap, cpp, ep⟩ := Kd.R_slice HV.out
              subst ep
              go_wp2_with (first
                | ((with_reducible refine gate_dst (N := 21) rfl ?_); refine Kd.R_make (Kd.int .u8) _ 5 rfl (N := 21) rfl 36 _ _ rfl 16 rfl rfl Try.underlying36 (.int .u8 0) 1 info5 rfl (by decide) (by omega) 0 (ok := fun _ => True) (okp := fun _ => True) rfl (fun _ hk => hk) trivial (by omega) (by omega) (Below.refl _ _) (Nat.le_refl _) ?_; intro va w1 ho hb hg_ hnew_; clear hg_ hnew_; (first | rw [← NA.out] at ho | (simp only [Int.reduceToNat] at ho; rw [← NA.out] at ho)); have hl_ := Kd.R_base ho; have n1_ : Aside0 (Kd.S (Kd.slice 5 (Kd.int .u8)) 36 w1 w0.heap.size (fun k_ => some k_ ≠ (u2 : Value).ownBlock ∧ some k_ ≠ (va : Value).ownBlock) (.slice A1 x1.length cp1) x1) := Aside0.mk (Kd.S_mono (Kd.S_old (ok := (fun k_ => some k_ ≠ (u2 : Value).ownBlock)) (by (with_reducible repeat (first | apply Kd.S_alloc | apply Kd.S_drewN | apply Kd.S_drew)); exact HO_1.out) hb) (fun k_ hk => ⟨hk.1, fun e_ => (by have := hl_ k_ e_.symm; have := hk.2; omega)⟩)); have n2_ : Aside0 (Kd.S (Kd.slice 5 (Kd.int .u8)) 36 w1 w0.heap.size (fun k_ => some k_ ≠ ((.slice A1 x1.length cp1) : Value).ownBlock ∧ some k_ ≠ (va : Value).ownBlock) u2 x2) := Aside0.mk (Kd.S_mono (Kd.S_old (ok := (fun k_ => some k_ ≠ ((.slice A1 x1.length cp1) : Value).ownBlock)) (by (with_reducible repeat (first | apply Kd.S_alloc | apply Kd.S_drewN | apply Kd.S_drew)); exact HO_2.out) hb) (fun k_ hk => ⟨hk.1, fun e_ => (by have := hl_ k_ e_.symm; have := hk.2; omega)⟩)); have n3_ := Aside0.mk (Kd.R_lower (Kd.R_new' (Kd.R_new' ho (Kd.S_lt (by (with_reducible repeat (first | apply Kd.S_alloc | apply Kd.S_drewN | apply Kd.S_drew)); exact HO_1.out))) (Kd.S_lt (by (with_reducible repeat (first | apply Kd.S_alloc | apply Kd.S_drewN | apply Kd.S_drew)); exact HO_2.out))) HB.out.size); have n4_ := Aside0.mk (Kd.R_elder' (by (with_reducible repeat (first | apply Kd.R_alloc | apply Kd.R_drewN | apply Kd.R_drew)); exact HV.out) (Kd.R_base ho) hb); have n5_ := Aside0.mk (below_then HB.out HB.out.size hb); clear HO_1 HO_2 HV HB hb ho hl_; have HO_1 := n1_; have HO_2 := n2_; have HOA := n3_; have HV := n4_; have HB := n5_; clear n1_ n2_ n3_ n4_ n5_; obtain ⟨Aa, ca, ea⟩ := Kd.R_slice HOA.out; subst ea)
                | ((with_reducible refine gate_builtin (b := .append) (xs := #[.tmp 20, .tmp 22]) rfl ?_); at_builtin; refine Kd.S_append (Kd.slice 5 (Kd.int .u8)) (w0 := w0) w0.heap.size rfl (.tmp 20) (.tmp 22) 25 36 (.slice none 0 0) 24 rfl Try.underlying25 info36 rfl (by decide) (by omega) (.slice A1 x1.length cp1) x1 ya [.slice Aa ya.length ca] (fun k_ => some k_ ≠ (u2 : Value).ownBlock) (fun k_ => some k_ = (.slice Aa ya.length ca : Value).ownBlock) rfl rfl ?aP ?aK ?aF ?aO ?aB ?aS ?aL ?_; (case aP => exact Kd.M_row (Kd.R_tight rfl HOA.out)); (case aK => exact fun k_ hk => ⟨(HOA.out.1 k_ hk.symm).2, (HOA.out.1 k_ hk.symm).1.2⟩); (case aF => exact fun k_ hk => Kd.fresh' (Kd.S_lt HO_2.out) k_ hk); (case aO => exact Kd.S_mono HO_1.out (fun _ hk => ⟨hk.1, hk.2⟩)); (case aB => exact HB.out); (case aS => exact HB.out.size); (case aL => have := L1.out; omega); intro v4 w3 ho hb hg hat; have n2_ := Aside0.mk (Kd.S_after (ok := fun _ => True) (Kd.S_mono HO_2.out (fun _ hk => ⟨trivial, hk.1⟩)) hg hat); have n3_ := Aside0.mk (Kd.R_after (ok := (fun k_ => some k_ ≠ (u2 : Value).ownBlock)) (Kd.R_mono HV.out (fun _ hk => ⟨hk.1.2, hk.1.1⟩)) hg hat); clear HO_1 HO_2 HOA HV HB; have HO_1 := Aside0.mk ho; have HO_2 := n2_; have HV := n3_; have HB := Aside0.mk hb; clear n2_ n3_ ho hb hg hat)
                | ((with_reducible refine gate_dst (N := 25) rfl ?_); refine Kd.R_lit (Kd.int .u8) _ 5 ?hg (N := 25) ?hd (xs := ([] : List Int)) (inner := []) (ok := fun _ => True) (okp := fun _ => True) ?hr ?hp (fun _ hk => hk) trivial (Below.refl _ _) (Nat.le_refl _) (by simp) ?_; (case hd => rfl); (case hg => rfl); (case hr => first | (go_simp; done) | (go_simp; rfl)); (case hp => exact (Reps.none _ _)); intro vb w4 ho hb hg_ hnew_; clear hg_ hnew_; have hl_ := Kd.R_base ho; have n1_ : Aside0 (Kd.S (Kd.slice 5 (Kd.int .u8)) 36 w4 w0.heap.size (fun k_ => some k_ ≠ (u2 : Value).ownBlock ∧ some k_ ≠ (vb : Value).ownBlock) v4 (x1 ++ [ya])) := Aside0.mk (Kd.S_mono (Kd.S_old (ok := (fun k_ => some k_ ≠ (u2 : Value).ownBlock)) (by (with_reducible repeat (first | apply Kd.S_alloc | apply Kd.S_drewN | apply Kd.S_drew)); exact HO_1.out) hb) (fun k_ hk => ⟨hk.1, fun e_ => (by have := hl_ k_ e_.symm; have := hk.2; omega)⟩)); have n2_ : Aside0 (Kd.S (Kd.slice 5 (Kd.int .u8)) 36 w4 w0.heap.size (fun k_ => some k_ ≠ (v4 : Value).ownBlock ∧ some k_ ≠ (vb : Value).ownBlock) u2 x2) := Aside0.mk (Kd.S_mono (Kd.S_old (ok := (fun k_ => some k_ ≠ (v4 : Value).ownBlock)) (by (with_reducible repeat (first | apply Kd.S_alloc | apply Kd.S_drewN | apply Kd.S_drew)); exact Kd.S_mono HO_2.out (fun _ hk => hk.2)) hb) (fun k_ hk => ⟨hk.1, fun e_ => (by have := hl_ k_ e_.symm; have := hk.2; omega)⟩)); have n3_ := Aside0.mk (Kd.R_lower (Kd.R_new' (Kd.R_new' (Kd.R_new' ho (Kd.S_lt (by (with_reducible repeat (first | apply Kd.S_alloc | apply Kd.S_drewN | apply Kd.S_drew)); exact HO_1.out))) (Kd.S_lt (by (with_reducible repeat (first | apply Kd.S_alloc | apply Kd.S_drewN | apply Kd.S_drew)); exact HO_2.out))) (Kd.R_lt (by (with_reducible repeat (first | apply Kd.R_alloc | apply Kd.R_drewN | apply Kd.R_drew)); exact HV.out))) HB.out.size); have n4_ := Aside0.mk (Kd.R_elder' (by (with_reducible repeat (first | apply Kd.R_alloc | apply Kd.R_drewN | apply Kd.R_drew)); exact HV.out) (Kd.R_base ho) hb); have n5_ := Aside0.mk (below_then HB.out HB.out.size hb); clear HO_1 HO_2 HV HB hb ho hl_; have HO_1 := n1_; have HO_2 := n2_; have HOB := n3_; have HV := n4_; have HB := n5_; clear n1_ n2_ n3_ n4_ n5_)
                | ((with_reducible refine gate_builtin (b := .append) (xs := #[.tmp 25, .tmp 26]) rfl ?_); at_builtin; refine Kd.R_append_rows (Kd.int .u8) (w0 := w0) w0.heap.size rfl (.tmp 25) (.tmp 26) 36 5 (.int .u8 0) 1 rfl Try.underlying36 info5 rfl (by decide) (by omega) vb [] p _ _ _ (fun k_ => some k_ ≠ (v4 : Value).ownBlock ∧ some k_ ≠ (u2 : Value).ownBlock) (fun _ => False) rfl rfl ?aO ?aR (fun _ _ h => h) (fun _ h => h.elim) ?aF ?aB ?aS ?aL ?_; (case aR => exact (Kd.R_reads' HV.out).2.2); (case aB => exact HB.out); (case aF => exact (fun k_ hk => ⟨Kd.fresh' (Kd.S_lt HO_1.out) k_ hk, Kd.fresh' (Kd.S_lt HO_2.out) k_ hk⟩)); (case aO => exact Kd.R_mono HOB.out (fun _ hk => ⟨hk.1.1.2, hk.1.2⟩)); (case aS => exact HB.out.size); (case aL => have := L3.out; simp; omega); intro vc w5 ho hb hg hat; have n1_ := Aside0.mk (Kd.S_after (ok := (fun k_ => some k_ ≠ (u2 : Value).ownBlock)) HO_1.out hg hat); have n2_ := Aside0.mk (Kd.S_after (ok := (fun k_ => some k_ ≠ (v4 : Value).ownBlock)) HO_2.out hg hat); have n3_ := Aside0.mk (Kd.R_after (ok := (fun k_ => some k_ ≠ (v4 : Value).ownBlock ∧ some k_ ≠ (u2 : Value).ownBlock)) (Kd.R_mono HV.out (fun _ hk => ⟨⟨hk.1.2, hk.1.1⟩, hk.2⟩)) hg hat); clear HO_1 HO_2 HOB HV HB; have HO_1 := n1_; have HO_2 := n2_; have HV := n3_; have HOC := Aside0.mk ho; have HB := Aside0.mk hb; clear n1_ n2_ n3_ ho hb hg hat; obtain ⟨Ac, cc, ec⟩ := Kd.R_slice HOC.out; subst ec)
                | ((with_reducible refine gate_builtin (b := .append) (xs := #[.tmp 24, .tmp 28]) rfl ?_); at_builtin; refine Kd.S_append (Kd.slice 5 (Kd.int .u8)) (w0 := w0) w0.heap.size rfl (.tmp 24) (.tmp 28) 25 36 (.slice none 0 0) 24 rfl Try.underlying25 info36 rfl (by decide) (by omega) u2 x2 p [.slice Ac p.length cc] (fun k_ => some k_ ≠ (v4 : Value).ownBlock) (fun k_ => some k_ = (.slice Ac p.length cc : Value).ownBlock) rfl rfl ?aP ?aK ?aF ?aO ?aB ?aS ?aL ?_; (case aP => exact Kd.M_row (Kd.R_tight rfl HOC.out)); (case aK => exact fun k_ hk => ⟨(HOC.out.1 k_ hk.symm).1, (HOC.out.1 k_ hk.symm).2⟩); (case aF => exact fun k_ hk => Kd.fresh' (Kd.S_lt HO_1.out) k_ hk); (case aO => exact Kd.S_mono HO_2.out (fun _ hk => ⟨hk.1, hk.2⟩)); (case aB => exact HB.out); (case aS => exact HB.out.size); (case aL => have := L2.out; omega); intro v6 w6 ho hb hg hat; have n1_ := Aside0.mk (Kd.S_after (ok := fun _ => True) (Kd.S_mono HO_1.out (fun _ hk => ⟨trivial, hk.1⟩)) hg hat); have n3_ := Aside0.mk (Kd.R_after (ok := (fun k_ => some k_ ≠ (v4 : Value).ownBlock)) (Kd.R_mono HV.out (fun _ hk => ⟨hk.1.1, hk.1.2⟩)) hg hat); clear HO_1 HO_2 HOC HV HB; have HO_1 := n1_; have HO_2 := Aside0.mk ho; have HV := n3_; have HB := Aside0.mk hb; clear n1_ n3_ ho hb hg hat))
              go_roundg k1
              case measure => have := HK1.out; omega
              case rel => exact ⟨_, _, H', ⟨by have := HK1.out; omega⟩, ⟨by (with_reducible repeat (first | apply Kd.S_alloc | apply Kd.S_drewN | apply Kd.S_drew)); exact Kd.S_mono HO_1.out (fun _ hk => hk.2)⟩, ⟨by (with_reducible repeat (first | apply Kd.S_alloc | apply Kd.S_drewN | apply Kd.S_drew)); exact HO_2.out⟩, ⟨by (with_reducible repeat (first | apply Kd.R_alloc | apply Kd.R_drewN | apply Kd.R_drew)); exact HV.out⟩, ⟨by repeat (first | (with_reducible first | exact HB.out | apply below_alloc | apply pw_below_drewN | apply below_drew1) | exact HB.out)⟩⟩
            · rw [if_neg c3] at H
              exact absurd H (by simp)
          · rw [if_neg c4] at H
            exact absurd H (by simp)
        · rw [if_neg c2] at H
          exact absurd H (by simp)
      · rw [if_neg c1] at H
        have c1b : decide ((x1.length : Int) < n) = false := decide_eq_false c1
        clear c1
        simp only [Option.some.injEq, Prod.mk.injEq] at H
        obtain ⟨rfl, rfl⟩ := H
        obtain ⟨A1, cp1, e1⟩ := Kd.S_slice HO_1.out
        subst e1
        go_wp2
        go_ret2
        exact ⟨_, _, rfl, by (with_reducible repeat (first | apply Kd.S_alloc | apply Kd.S_drewN | apply Kd.S_drew)); exact HO_1.out, by (with_reducible repeat (first | apply Kd.S_alloc | apply Kd.S_drewN | apply Kd.S_drew)); exact HO_2.out, by repeat (first | (with_reducible first | exact HB.out | apply below_alloc | apply pw_below_drewN | apply below_drew1) | exact HB.out)⟩


/-! ### strakeref15_SameBytes: function 13 -/
def strakeref15_SameBytes.l0 : Nat → List (List Int) → List (List Int) → Int → Option (Bool)
 | 0, _, _, _ => none
 | k + 1,x0,x1,x5 => if x5 < (x0.length : Int) then (if 0 ≤ x5 then (if x5 < (x1.length : Int) then (if (strOfNums (rd_L2 x0 x5)).toList = (strOfNums (rd_L2 x1 x5)).toList then (strakeref15_SameBytes.l0 k x0 x1 (wrap64 (x5 + 1))) else (some false)) else (none)) else (none)) else (some true)
def strakeref15_SameBytes.f (k : Nat) (l0 : List (List Int)) (l1 : List (List Int)) : Option (Bool) := if (l0.length : Int) = (l1.length : Int) then (strakeref15_SameBytes.l0 k l0 l1 0) else (some false)
theorem strakeref15_SameBytes.mono_l : ∀ k,(∀ y0 y1 y2,LeO (strakeref15_SameBytes.l0 k y0 y1 y2) (strakeref15_SameBytes.l0 (k + 1) y0 y1 y2))
 | 0 => fun _ _ _ r h => by simp [strakeref15_SameBytes.l0] at h
 | k + 1 => by
  have ih0 := strakeref15_SameBytes.mono_l k
  ·intro y0 y1 y2
   unfold strakeref15_SameBytes.l0
   repeat' first
   | (with_reducible exact ih0 _ _ _)
   | (with_reducible exact LeO.refl _)
   | (with_reducible exact LeO.none _)
   | (with_reducible refine LeO.ite ?_ ?_)
   | (with_reducible refine LeO.bind ?_ (fun _ => ?_))
   | exact ih0 _ _ _
   | exact LeO.none _
   | refine LeO.ite ?_ ?_
   | refine LeO.bind ?_ (fun _ => ?_)
theorem strakeref15_SameBytes.mono : ∀ a0 a1 k,LeO (strakeref15_SameBytes.f k a0 a1) (strakeref15_SameBytes.f (k + 1) a0 a1) := by
 intro a0 a1 k
 have ih0 := strakeref15_SameBytes.mono_l k
 unfold strakeref15_SameBytes.f
 repeat' first
   | (with_reducible exact ih0 _ _ _)
   | (with_reducible exact LeO.refl _)
   | (with_reducible exact LeO.none _)
   | (with_reducible refine LeO.ite ?_ ?_)
   | (with_reducible refine LeO.bind ?_ (fun _ => ?_))
   | exact ih0 _ _ _
   | exact LeO.none _
   | refine LeO.ite ?_ ?_
   | refine LeO.bind ?_ (fun _ => ?_)
set_option maxHeartbeats 8000000 in
set_option maxRecDepth 100000 in
theorem strakeref15_SameBytes.calls (k : Nat) (A0 : Option Addr) (c0 : Nat) (l0 : List (List Int)) (A1 : Option Addr) (c1 : Nat) (l1 : List (List Int)) (r : Bool) (w : World) (hr0 : Kd.C (Kd.slice 5 (Kd.int .u8)) w A0 l0.length l0) (hc0 : l0.length ≤ c0) (hr1 : Kd.C (Kd.slice 5 (Kd.int .u8)) w A1 l1.length l1) (hc1 : l1.length ≤ c1) (h : strakeref15_SameBytes.f k l0 l1 = some r) :
  Calls Try.prog 13 #[.slice A0 l0.length c0,.slice A1 l1.length c1] w fun e w' => e = .returned (.bool r) ∧ Drawn0 w w' := by
 have HR0 := Aside0.mk hr0
 have HC0 := Aside0.mk hc0
 clear hr0 hc0
 have HR1 := Aside0.mk hr1
 have HC1 := Aside0.mk hc1
 clear hr1 hc1
 have H : (if (l0.length : Int) = (l1.length : Int) then (strakeref15_SameBytes.l0 k l0 l1 0) else (some false)) = some r := h
 clear h
 by_cases c3 : (l0.length : Int) = (l1.length : Int)
 ·rw [if_pos c3] at H
  have c3b0 : ((l0.length : Int) == (l1.length : Int)) = true := beq_iff_eq.mpr c3
  have c3b1 : ((l0.length : Int) != (l1.length : Int)) = false := bne_eq_false_iff_eq.mpr c3
  have c3b2 : (l0.length == l1.length) = true := by first | simpa using c3 | (simp at c3 ⊢; omega)
  clear c3
  have H' := Aside0.mk H
  clear H
  go_enter Try.func13, Try.ntmps13
  go_wp2
  repeat (go_quiet (fail); try go_wp2)
  go_loopg [5] k (fun kq v5 w' => ∃ (x5_1 : Int),v5 = .int .i64 x5_1 ∧ Aside0 (strakeref15_SameBytes.l0 kq l0 l1 x5_1 = some r) ∧ Aside0 (kq ≤ k) ∧ Drawn0 w w')
  case atStart => exact ⟨(0),(by first|rfl|(simp;done)|(simp [*];done)),H',⟨Nat.le_refl _⟩,by repeat (first|exact Drawn0.refl _|apply Drawn0.step)⟩
  case round =>
   clear H'
   try clear c1
   try clear p2
   try clear c3
   try clear c3b0
   try clear c3b1
   try clear c3b2
   obtain ⟨x5_1, rfl, HA, HK1, ⟨m1, rfl⟩⟩ := hrel
   cases gk with
   | zero => exact absurd HA.out (by simp [strakeref15_SameBytes.l0])
   | succ k1 =>
    have H := HA.out
    clear HA
    simp only [strakeref15_SameBytes.l0] at H
    by_cases c4 : x5_1 < (l0.length : Int)
    ·rw [if_pos c4] at H
     have c4b0 : decide (x5_1 < (l0.length : Int)) = true := decide_eq_true c4
     clear c4
     by_cases c5 : 0 ≤ x5_1
     ·rw [if_pos c5] at H
      have c5b0 : decide (0 ≤ x5_1) = true := decide_eq_true c5
      clear c5
      by_cases c6 : x5_1 < (l1.length : Int)
      ·rw [if_pos c6] at H
       have c6b0 : decide (x5_1 < (l1.length : Int)) = true := decide_eq_true c6
       clear c6
       by_cases c7 : (strOfNums (rd_L2 l0 x5_1)).toList = (strOfNums (rd_L2 l1 x5_1)).toList
       ·rw [if_pos c7] at H
        have c7b0 : ((strOfNums (rd_L2 l0 x5_1)).toList == (strOfNums (rd_L2 l1 x5_1)).toList) = true := beq_iff_eq.mpr c7
        have c7b1 : ((strOfNums (rd_L2 l0 x5_1)).toList != (strOfNums (rd_L2 l1 x5_1)).toList) = false := bne_eq_false_iff_eq.mpr c7
        clear c7
        have H' := Aside0.mk H
        clear H
        have p267 : 0 ≤ (x5_1 : Int) := of_decide_eq_true (by first | (with_reducible assumption) | assumption)
        have q267 : x5_1 < (l0.length : Int) := of_decide_eq_true (by first | (with_reducible assumption) | assumption)
        obtain ⟨ad267, A267_0, c267_0, e267, hx267_0, hl267_0, hi267_0⟩ := at_L2 HR0.out x5_1 p267 q267
        cases e267
        have HR267_0 := Aside0.mk hi267_0
        have HC267_0 := Aside0.mk hl267_0
        clear hi267_0 hl267_0
        replace p267 := eq_true p267
        replace q267 := eq_true q267
        have hcv8 := Kd.C_string (P := Try.prog) (A := A267_0) (c := c267_0) Try.underlying36 Try.underlying5 Try.underlying9 HR267_0.out
        have hcv9 := fun nq_ : Nat => Kd.C_string (P := Try.prog) (A := A267_0) (c := c267_0) Try.underlying36 Try.underlying5 Try.underlying9 (Kd.C_drewN HR267_0.out nq_)
        have p268 : 0 ≤ (x5_1 : Int) := of_decide_eq_true (by first | (with_reducible assumption) | assumption)
        have q268 : x5_1 < (l1.length : Int) := of_decide_eq_true (by first | (with_reducible assumption) | assumption)
        obtain ⟨ad268, A268_0, c268_0, e268, hx268_0, hl268_0, hi268_0⟩ := at_L2 HR1.out x5_1 p268 q268
        cases e268
        have HR268_0 := Aside0.mk hi268_0
        have HC268_0 := Aside0.mk hl268_0
        clear hi268_0 hl268_0
        replace p268 := eq_true p268
        replace q268 := eq_true q268
        have hcv10 := Kd.C_string (P := Try.prog) (A := A268_0) (c := c268_0) Try.underlying36 Try.underlying5 Try.underlying9 HR268_0.out
        have hcv11 := fun nq_ : Nat => Kd.C_string (P := Try.prog) (A := A268_0) (c := c268_0) Try.underlying36 Try.underlying5 Try.underlying9 (Kd.C_drewN HR268_0.out nq_)
        go_wp2
        repeat (go_quiet (fail); try go_wp2)
        go_roundg k1
        case measure => have := HK1.out; omega
        case rel => exact ⟨(wrap64 (x5_1 + 1)),(by first|rfl|(simp;done)|(simp [*];done)),H',⟨by have := HK1.out;omega⟩,by repeat (first|exact Drawn0.refl _|apply Drawn0.step)⟩
       ·rw [if_neg c7] at H
        have c7b0 : ((strOfNums (rd_L2 l0 x5_1)).toList == (strOfNums (rd_L2 l1 x5_1)).toList) = false := beq_eq_false_iff_ne.mpr c7
        have c7b1 : ((strOfNums (rd_L2 l0 x5_1)).toList != (strOfNums (rd_L2 l1 x5_1)).toList) = true := bne_iff_ne.mpr c7
        obtain rfl := Option.some.inj H
        have p267 : 0 ≤ (x5_1 : Int) := of_decide_eq_true (by first | (with_reducible assumption) | assumption)
        have q267 : x5_1 < (l0.length : Int) := of_decide_eq_true (by first | (with_reducible assumption) | assumption)
        obtain ⟨ad267, A267_0, c267_0, e267, hx267_0, hl267_0, hi267_0⟩ := at_L2 HR0.out x5_1 p267 q267
        cases e267
        have HR267_0 := Aside0.mk hi267_0
        have HC267_0 := Aside0.mk hl267_0
        clear hi267_0 hl267_0
        replace p267 := eq_true p267
        replace q267 := eq_true q267
        have hcv12 := Kd.C_string (P := Try.prog) (A := A267_0) (c := c267_0) Try.underlying36 Try.underlying5 Try.underlying9 HR267_0.out
        have hcv13 := fun nq_ : Nat => Kd.C_string (P := Try.prog) (A := A267_0) (c := c267_0) Try.underlying36 Try.underlying5 Try.underlying9 (Kd.C_drewN HR267_0.out nq_)
        have p268 : 0 ≤ (x5_1 : Int) := of_decide_eq_true (by first | (with_reducible assumption) | assumption)
        have q268 : x5_1 < (l1.length : Int) := of_decide_eq_true (by first | (with_reducible assumption) | assumption)
        obtain ⟨ad268, A268_0, c268_0, e268, hx268_0, hl268_0, hi268_0⟩ := at_L2 HR1.out x5_1 p268 q268
        cases e268
        have HR268_0 := Aside0.mk hi268_0
        have HC268_0 := Aside0.mk hl268_0
        clear hi268_0 hl268_0
        replace p268 := eq_true p268
        replace q268 := eq_true q268
        have hcv14 := Kd.C_string (P := Try.prog) (A := A268_0) (c := c268_0) Try.underlying36 Try.underlying5 Try.underlying9 HR268_0.out
        have hcv15 := fun nq_ : Nat => Kd.C_string (P := Try.prog) (A := A268_0) (c := c268_0) Try.underlying36 Try.underlying5 Try.underlying9 (Kd.C_drewN HR268_0.out nq_)
        go_wp2
        repeat (go_quiet (fail); try go_wp2)
        go_ret
        exact ⟨by first|rfl|(simp;done)|(simp [*];done),by repeat (first|exact Drawn0.refl _|apply Drawn0.step)⟩
      ·rw [if_neg c6] at H
       exact absurd H (by simp)
     ·rw [if_neg c5] at H
      exact absurd H (by simp)
    ·rw [if_neg c4] at H
     have c4b0 : decide (x5_1 < (l0.length : Int)) = false := decide_eq_false c4
     clear c4
     obtain rfl := Option.some.inj H
     go_wp2
     repeat (go_quiet (fail); try go_wp2)
     go_ret
     exact ⟨by first|rfl|(simp;done)|(simp [*];done),by repeat (first|exact Drawn0.refl _|apply Drawn0.step)⟩
 ·rw [if_neg c3] at H
  have c3b0 : ((l0.length : Int) == (l1.length : Int)) = false := beq_eq_false_iff_ne.mpr c3
  have c3b1 : ((l0.length : Int) != (l1.length : Int)) = true := bne_iff_ne.mpr c3
  have c3b2 : (l0.length == l1.length) = false := by first | simpa using c3 | (simp at c3 ⊢; omega)
  obtain rfl := Option.some.inj H
  go_enter Try.func13, Try.ntmps13
  go_wp2
  repeat (go_quiet (fail); try go_wp2)
  go_ret
  exact ⟨by first | rfl | (simp; done) | (simp [*]; done), by repeat (first | exact Drawn0.refl _ | apply Drawn0.step)⟩

end Go.Proofs.Ythoebkkohdfgeaa.X
