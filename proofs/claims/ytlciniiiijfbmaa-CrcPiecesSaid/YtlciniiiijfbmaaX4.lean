-- laid by wip/tools/xprint.py (our own changes over the printer)
import Derived.Test.YtlciniiiijfbmaaX0
import Derived.Test.YtlciniiiijfbmaaX1
namespace Go.Proofs.Ytlciniiiijfbmaa.X
open Go.RowKit Go.Proofs.YtlciniiiijfbmaaW.PrintWords Go.Proofs.YtlciniiiijfbmaaW.PrintLast Go.Proofs.YtlciniiiijfbmaaW.PrintMore
attribute [local go_sem] max2_int min2_int max_two min_two max_three min_three max_four min_four   -- for this text's walks alone
set_option linter.unusedVariables false
set_option linter.unusedSimpArgs false

/-! ### strakelaw01_CrcTurned: function 7 -/
mutual
def strakelaw01_CrcTurned.j0 : Nat → List Int → Int → Int → Bool → Bool → Option (Bool)
  | 0, _, _, _, _, _ => none
  | k + 1, x0, x1, x2, x7, x26 => if x26 = true then (some x7) else (if (wrap64 ((x0.length : Int) - 3)) = 0 then (none) else ((some (([] : List Int) : List Int)).bind fun y154 => (if y154.length + x0.length < 140737488355328 then (strakelaw01_CrcTurned.l0 k x0 (Int.tmod x1 (wrap64 ((x0.length : Int) - 3))) x2 x7 (y154 ++ x0) 0) else (none))))
def strakelaw01_CrcTurned.l0 : Nat → List Int → Int → Int → Bool → List Int → Int → Option (Bool)
  | 0, _, _, _, _, _, _ => none
  | k + 1, x0, x1, x2, x7, x8, x9 => if x9 < 4 then (if 0 ≤ (wrap64 (x1 + x9)) then (if (wrap64 (x1 + x9)) < (x8.length : Int) then (if 0 ≤ (wrap64 (8 * x9)) then (strakelaw01_CrcTurned.l0 k x0 x1 x2 x7 (x8.set ((wrap64 (x1 + x9)) : Int).toNat (Go.bits .xor .u8 (rd x8 (wrap64 (x1 + x9))) ((shr .u32 x2 (wrap64 (8 * x9))) % 256))) (wrap64 (x9 + 1))) else (none)) else (none)) else (none)) else (if x7 = true then ((crc_Sum.f k x8).bind fun t162 => ((crc_Sum.f k x0).bind fun t163 => (some (t162 != t163)))) else (some false))
end
def strakelaw01_CrcTurned.f (k : Nat) (l0 : List Int) (a1 : Int) (a2 : Int) : Option (Bool) := (strakelaw01_awake.f k).bind fun t153 => (if (l0.length : Int) < 4 then (strakelaw01_CrcTurned.j0 k l0 a1 a2 t153 true) else (if (l0.length : Int) > 20000 then (strakelaw01_CrcTurned.j0 k l0 a1 a2 t153 true) else (if a1 < 0 then (strakelaw01_CrcTurned.j0 k l0 a1 a2 t153 true) else (strakelaw01_CrcTurned.j0 k l0 a1 a2 t153 (a2 == 0)))))
theorem strakelaw01_CrcTurned.mono_l : ∀ k, (∀ y0 y1 y2 y3 y4, LeO (strakelaw01_CrcTurned.j0 k y0 y1 y2 y3 y4) (strakelaw01_CrcTurned.j0 (k + 1) y0 y1 y2 y3 y4)) ∧ (∀ y0 y1 y2 y3 y4 y5, LeO (strakelaw01_CrcTurned.l0 k y0 y1 y2 y3 y4 y5) (strakelaw01_CrcTurned.l0 (k + 1) y0 y1 y2 y3 y4 y5))
  | 0 => ⟨fun _ _ _ _ _ r h => by simp [strakelaw01_CrcTurned.j0] at h, fun _ _ _ _ _ _ r h => by simp [strakelaw01_CrcTurned.l0] at h⟩
  | k + 1 => by
    obtain ⟨ih0, ih1⟩ := strakelaw01_CrcTurned.mono_l k
    refine ⟨?_, ?_⟩
    · intro y0 y1 y2 y3 y4
      unfold strakelaw01_CrcTurned.j0
      repeat' first
      | (with_reducible exact ih0 _ _ _ _ _)
      | (with_reducible exact ih1 _ _ _ _ _ _)
      | (with_reducible exact crc_Sum.mono _ _)
      | (with_reducible exact strakelaw01_awake.mono _)
      | (with_reducible exact LeO.refl _)
      | (with_reducible exact LeO.none _)
      | (with_reducible refine LeO.ite ?_ ?_)
      | (with_reducible refine LeO.bind ?_ (fun _ => ?_))
      | exact ih0 _ _ _ _ _
      | exact ih1 _ _ _ _ _ _
      | exact crc_Sum.mono _ _
      | exact strakelaw01_awake.mono _
      | exact LeO.none _
      | refine LeO.ite ?_ ?_
      | refine LeO.bind ?_ (fun _ => ?_)
    · intro y0 y1 y2 y3 y4 y5
      unfold strakelaw01_CrcTurned.l0
      repeat' first
      | (with_reducible exact ih0 _ _ _ _ _)
      | (with_reducible exact ih1 _ _ _ _ _ _)
      | (with_reducible exact crc_Sum.mono _ _)
      | (with_reducible exact strakelaw01_awake.mono _)
      | (with_reducible exact LeO.refl _)
      | (with_reducible exact LeO.none _)
      | (with_reducible refine LeO.ite ?_ ?_)
      | (with_reducible refine LeO.bind ?_ (fun _ => ?_))
      | exact ih0 _ _ _ _ _
      | exact ih1 _ _ _ _ _ _
      | exact crc_Sum.mono _ _
      | exact strakelaw01_awake.mono _
      | exact LeO.none _
      | refine LeO.ite ?_ ?_
      | refine LeO.bind ?_ (fun _ => ?_)
theorem strakelaw01_CrcTurned.mono : ∀ a0 a1 a2 k, LeO (strakelaw01_CrcTurned.f k a0 a1 a2) (strakelaw01_CrcTurned.f (k + 1) a0 a1 a2) := by
  intro a0 a1 a2 k
  obtain ⟨ih0, ih1⟩ := strakelaw01_CrcTurned.mono_l k
  unfold strakelaw01_CrcTurned.f
  repeat' first
      | (with_reducible exact ih0 _ _ _ _ _)
      | (with_reducible exact ih1 _ _ _ _ _ _)
      | (with_reducible exact crc_Sum.mono _ _)
      | (with_reducible exact strakelaw01_awake.mono _)
      | (with_reducible exact LeO.refl _)
      | (with_reducible exact LeO.none _)
      | (with_reducible refine LeO.ite ?_ ?_)
      | (with_reducible refine LeO.bind ?_ (fun _ => ?_))
      | exact ih0 _ _ _ _ _
      | exact ih1 _ _ _ _ _ _
      | exact crc_Sum.mono _ _
      | exact strakelaw01_awake.mono _
      | exact LeO.none _
      | refine LeO.ite ?_ ?_
      | refine LeO.bind ?_ (fun _ => ?_)
def strakelaw01_CrcTurned.T9 : Bool × List (List Nat × List Nat) := (true, [([], []), ([], []), ([], []), ([1, 2], [1, 2]), ([], []), ([], []), ([], []), ([5, 6], [5, 6]), ([4, 7], [4, 7]), ([8], [8]), ([], []), ([], []), ([11], [11]), ([10, 12], [10, 12]), ([13], [13]), ([9, 14], [9, 14]), ([0, 3, 0, 1, 2, 3, 4, 5, 6, 7, 8, 9, 10, 11, 12, 13, 14, 15], [0, 3]), ([16, 15, 0, 1, 2, 3, 4, 5, 6, 7, 8, 9, 10, 11, 12, 13, 14, 15], [15, 16])])
def strakelaw01_CrcTurned.B9 : List Nat := [0, 0, 0, 6, 0, 0, 0, 96, 240, 496, 0, 0, 2048, 7168, 15360, 32752, 65535, 131071]
theorem strakelaw01_CrcTurned.tab9 : rtab .any (opsOf Try.f7 9) = strakelaw01_CrcTurned.T9 := by kernel_rfl
theorem strakelaw01_CrcTurned.bits9 : waitsOk strakelaw01_CrcTurned.T9.2 strakelaw01_CrcTurned.B9 = true := by kernel_rfl
set_option maxHeartbeats 8000000 in
set_option maxRecDepth 100000 in
theorem strakelaw01_CrcTurned.calls (k : Nat) (A0 : Option Addr) (c0 : Nat) (l0 : List Int) (a1 : Int) (a2 : Int) (r : Bool) (w : World) (hr0 : Kd.C (Kd.int .u8) w A0 l0.length l0) (hc0 : l0.length ≤ c0) (h : strakelaw01_CrcTurned.f k l0 a1 a2 = some r) :
    Calls Try.prog 7 #[.slice A0 l0.length c0, .int .i64 a1, .int .u32 a2] w fun e w' => e = .returned (.bool r) ∧ Below w.heap.size w w' := by
  have HR0 := Aside0.mk hr0
  have HC0 := Aside0.mk hc0
  clear hr0 hc0
  have HB := Aside0.mk (Below.refl w.heap.size w)
  have H : ((strakelaw01_awake.f k).bind fun t153 => (if (l0.length : Int) < 4 then (strakelaw01_CrcTurned.j0 k l0 a1 a2 t153 true) else (if (l0.length : Int) > 20000 then (strakelaw01_CrcTurned.j0 k l0 a1 a2 t153 true) else (if a1 < 0 then (strakelaw01_CrcTurned.j0 k l0 a1 a2 t153 true) else (strakelaw01_CrcTurned.j0 k l0 a1 a2 t153 (a2 == 0)))))) = some r := h
  clear h
  replace H := Option.bind_eq_some_iff.mp H
  obtain ⟨t153, A40, H⟩ := H
  replace H : (if (l0.length : Int) < 4 then (strakelaw01_CrcTurned.j0 k l0 a1 a2 t153 true) else (if (l0.length : Int) > 20000 then (strakelaw01_CrcTurned.j0 k l0 a1 a2 t153 true) else (if a1 < 0 then (strakelaw01_CrcTurned.j0 k l0 a1 a2 t153 true) else (strakelaw01_CrcTurned.j0 k l0 a1 a2 t153 (a2 == 0))))) = some r := H
  have A4 := Aside0.mk A40
  clear A40
  have HC5 := Aside0.mk H
  clear H
  go_enter Try.func7, Try.ntmps7
  go_upto_region 2 with (first | ((with_reducible refine gate_callee (f := 10) rfl ?_); refine goesL_ (some 10) rfl rfl Try.func10 (by kernel_rfl) rfl #[] rfl (by (try simp only [List.map_toArray, List.map_cons, List.map_nil]); first | done | rfl | (simp only [List.length_drop, List.length_take]; rfl)) ?_; (with_reducible refine (strakelaw01_awake.calls k  t153 _ A4.out).mono ?_); rintro e w6 ⟨rfl, hb⟩; refine ⟨_, rfl, ?_⟩; have n0_ := Aside0.mk (below_step (by repeat (first | (with_reducible first | exact HB.out | apply below_alloc | apply pw_below_drewN | apply below_drew1) | exact HB.out)) hb); clear HB; have HB := n0_; clear n0_; (try clear hb); (try clear hb2); (try clear hk); (try clear hi)))
  (try simp only [Act.put, List.setIfInBounds_toArray, List.set_cons_zero, List.set_cons_succ])
  go_cut [26] (fun v26 wc => ∃ (kq : Nat) (x26_4 : Bool), v26 = .bool x26_4 ∧ Aside0 (strakelaw01_CrcTurned.j0 kq l0 a1 a2 t153 x26_4 = some r) ∧ Aside0 (kq ≤ k) ∧ Aside0 (Below w.heap.size w wc))
  case first =>
    have H := HC5.out
    clear HC5
    by_cases c7 : (l0.length : Int) < 4
    · rw [if_pos c7] at H
      have c7b0 : decide ((l0.length : Int) < 4) = true := decide_eq_true c7
      have c7b1 : decide (l0.length < 4) = true := decide_eq_true (by omega)
      clear c7
      (first | rw [c7b0] | (simp only [i64_w, i32_w]; rw [c7b0]) | skip)
      have H' := Aside0.mk H
      clear H
      go_wp2
      go_meet
      case rel => exact ⟨_, (true), (by first | rfl | (simp; done) | (simp [*]; done)), H', ⟨by first | omega | exact Nat.le_refl _⟩, ⟨by repeat (first | (with_reducible first | exact HB.out | apply below_alloc | apply pw_below_drewN | apply below_drew1) | exact HB.out)⟩⟩
    · rw [if_neg c7] at H
      have c7b0 : decide ((l0.length : Int) < 4) = false := decide_eq_false c7
      have c7b1 : decide (l0.length < 4) = false := decide_eq_false (by omega)
      clear c7
      (first | rw [c7b0] | (simp only [i64_w, i32_w]; rw [c7b0]) | skip)
      by_cases c8 : (l0.length : Int) > 20000
      · rw [if_pos c8] at H
        have c8b0 : decide (20000 < (l0.length : Int)) = true := decide_eq_true c8
        have c8b1 : decide (20000 < l0.length) = true := decide_eq_true (by omega)
        clear c8
        have H' := Aside0.mk H
        clear H
        go_wp2
        go_meet
        case rel => exact ⟨_, (true), (by first | rfl | (simp; done) | (simp [*]; done)), H', ⟨by first | omega | exact Nat.le_refl _⟩, ⟨by repeat (first | (with_reducible first | exact HB.out | apply below_alloc | apply pw_below_drewN | apply below_drew1) | exact HB.out)⟩⟩
      · rw [if_neg c8] at H
        have c8b0 : decide (20000 < (l0.length : Int)) = false := decide_eq_false c8
        have c8b1 : decide (20000 < l0.length) = false := decide_eq_false (by omega)
        clear c8
        by_cases c9 : a1 < 0
        · rw [if_pos c9] at H
          have c9b0 : decide (a1 < 0) = true := decide_eq_true c9
          clear c9
          have H' := Aside0.mk H
          clear H
          go_wp2
          go_meet
          case rel => exact ⟨_, (true), (by first | rfl | (simp; done) | (simp [*]; done)), H', ⟨by first | omega | exact Nat.le_refl _⟩, ⟨by repeat (first | (with_reducible first | exact HB.out | apply below_alloc | apply pw_below_drewN | apply below_drew1) | exact HB.out)⟩⟩
        · rw [if_neg c9] at H
          have c9b0 : decide (a1 < 0) = false := decide_eq_false c9
          clear c9
          have H' := Aside0.mk H
          clear H
          go_wp2
          go_meet
          case rel => exact ⟨_, ((a2 == 0)), (by first | rfl | (simp; done) | (simp [*]; done)), H', ⟨by first | omega | exact Nat.le_refl _⟩, ⟨by repeat (first | (with_reducible first | exact HB.out | apply below_alloc | apply pw_below_drewN | apply below_drew1) | exact HB.out)⟩⟩
  case rest =>
    clear HC5
    try clear c1
    try clear p2
    try clear c7
    try clear c7b0
    try clear c7b1
    try clear c8
    try clear c8b0
    try clear c8b1
    try clear c9
    try clear c9b0
    obtain ⟨kq, x26_4, rfl, HA, HJ4, HB⟩ := hcut
    cases kq with
    | zero => exact absurd HA.out (by simp [strakelaw01_CrcTurned.j0])
    | succ kj4 =>
      have H := HA.out
      clear HA
      simp only [strakelaw01_CrcTurned.j0] at H
      by_cases c10 : x26_4 = true
      · subst c10
        have H1 : (some t153) = some r := by rw [if_pos rfl] at H; exact H
        clear H
        have H := H1
        clear H1
        obtain rfl := Option.some.inj H
        go_wp2
        go_ret
        exact ⟨by first | rfl | (simp [errW_none, errW_some] <;> rfl) | (simp [*, errW_none, errW_some] <;> rfl), by repeat (first | (with_reducible first | exact HB.out | apply below_alloc | apply pw_below_drewN | apply below_drew1) | exact HB.out)⟩
      · replace c10 := Bool.eq_false_iff.mpr c10
        subst c10
        have H1 : (if (wrap64 ((l0.length : Int) - 3)) = 0 then (none) else ((some (([] : List Int) : List Int)).bind fun y154 => (if y154.length + l0.length < 140737488355328 then (strakelaw01_CrcTurned.l0 kj4 l0 (Int.tmod a1 (wrap64 ((l0.length : Int) - 3))) a2 t153 (y154 ++ l0) 0) else (none)))) = some r := by rw [if_neg (show ¬ (false = true) by decide)] at H; exact H
        clear H
        have H := H1
        clear H1
        by_cases c11 : (wrap64 ((l0.length : Int) - 3)) = 0
        · rw [if_pos c11] at H
          exact absurd H (by simp)
        · rw [if_neg c11] at H
          have c11b0 : ((wrap64 ((l0.length : Int) - 3)) == 0) = false := beq_eq_false_iff_ne.mpr c11
          have c11b1 : ((wrap64 ((l0.length : Int) - 3)) != 0) = true := bne_iff_ne.mpr c11
          obtain ⟨y154, hy154⟩ : ∃ y_ : List Int, y_ = (([] : List Int)) := ⟨_, rfl⟩
          replace H : (if y154.length + l0.length < 140737488355328 then (strakelaw01_CrcTurned.l0 kj4 l0 (Int.tmod a1 (wrap64 ((l0.length : Int) - 3))) a2 t153 (y154 ++ l0) 0) else (none)) = some r := by first | (rw [hy154]; with_reducible exact H) | (have H2_ := (Option.bind_some _ _).symm.trans H; rw [hy154]; with_reducible exact H2_) | (have H2_ := (Option.bind_some _ _).symm.trans H; with_reducible exact H2_) | with_reducible exact H | (rw [hy154]; exact H) | exact H
          have Ny154 := Aside0.mk hy154
          clear hy154
          by_cases c12 : y154.length + l0.length < 140737488355328
          · rw [if_pos c12] at H
            have LMc12 := Aside0.mk c12
            clear c12
            obtain ⟨y157, hy157⟩ : ∃ y_ : List Int, y_ = (y154 ++ l0) := ⟨_, rfl⟩
            replace H : (strakelaw01_CrcTurned.l0 kj4 l0 (Int.tmod a1 (wrap64 ((l0.length : Int) - 3))) a2 t153 y157 0) = some r := by first | (rw [hy157]; with_reducible exact H) | (have H2_ := (Option.bind_some _ _).symm.trans H; rw [hy157]; with_reducible exact H2_) | (have H2_ := (Option.bind_some _ _).symm.trans H; with_reducible exact H2_) | with_reducible exact H | (rw [hy157]; exact H) | exact H
            have Ny157 := Aside0.mk hy157
            clear hy157
            have H' := Aside0.mk H
            clear H
            go_wp2_with (first | ((with_reducible refine gate_dst (N := 33) rfl ?_); (try (refine gate_guard (by rfl) ?_; dsimp only)); refine Kd.R_lit (Kd.int .u8) _ 5 ?hg (N := 33) ?hd (xs := ([] : List Int)) (inner := []) (ok := fun _ => True) (okp := fun _ => True) ?hr ?hp (fun _ hk => hk) trivial (Below.refl _ _) (Nat.le_refl _) (by simp) ?_; (case hd => rfl); (case hg => rfl); (case hr => first | (go_simp; done) | (go_simp; rfl)); (case hp => exact (Reps.none _ _)); intro v155 w13 ho14 hb hg_ hnew_; clear hg_ hnew_; (first | rw [← Ny154.out] at ho14 | (simp only [Int.reduceToNat] at ho14; rw [← Ny154.out] at ho14)); have n0_ := Aside0.mk (Kd.R_lower ho14 (below_size (by repeat (first | (with_reducible first | exact HB.out | apply below_alloc | apply pw_below_drewN | apply below_drew1) | exact HB.out)))); have n1_ := Aside0.mk (below_step (by repeat (first | (with_reducible first | exact HB.out | apply below_alloc | apply pw_below_drewN | apply below_drew1) | exact HB.out)) hb); clear HB; have HO156 := n0_; have HB := n1_; clear n0_ n1_; clear hb ho14) | ((with_reducible refine gate_builtin (b := .append) (xs := #[.tmp 33, .tmp 34]) rfl ?_); (try (refine gate_guard (by rfl) ?_; dsimp only)); at_builtin; refine Kd.R_append_rows (Kd.int .u8) (w0 := w) w.heap.size rfl (.tmp 33) (.tmp 34) 22 5 (.int .u8 0) 1 rfl Try.underlying22 info5 rfl (by decide) (by omega) v155 y154 l0 _ _ _ (fun _ => True) (fun _ => False) rfl rfl ?aO ?aR (fun _ _ h => h) (fun _ h => h.elim) ?aF ?aB ?aS ?aL ?_; (case aR => repeat (first | exact (Kd.C_below HR0.out HB.out) | (with_reducible refine Kd.C_alloc ?_ _) | (with_reducible refine Kd.C_drewN ?_ _) | (with_reducible refine Kd.C_drew ?_))); (case aB => exact (by repeat (first | (with_reducible first | exact HB.out | apply below_alloc | apply pw_below_drewN | apply below_drew1) | exact HB.out))); (case aF => exact (fun _ _ => trivial)); (case aO => exact (by (with_reducible repeat (first | apply Kd.R_alloc | apply Kd.R_drewN | apply Kd.R_drew)); exact HO156.out)); (case aS => exact (below_size (by repeat (first | (with_reducible first | exact HB.out | apply below_alloc | apply pw_below_drewN | apply below_drew1) | exact HB.out)))); (case aL => have := LMc12.out; omega); intro v158 w15 ho hb hg hat; rw [← Ny157.out] at ho; have n0_ := Aside0.mk (hb); have n1_ := Aside0.mk (ho); clear HB; clear HO156; have HB := n0_; have HO159 := n1_; clear n0_ n1_; clear ho hb hg hat))
            go_loopg [9] kj4 (fun kq v9 w' => ∃ (x8_2 : List Int) (x9_2 : Int), v9 = .int .i64 x9_2 ∧ Aside0 (strakelaw01_CrcTurned.l0 kq l0 (Int.tmod a1 (wrap64 ((l0.length : Int) - 3))) a2 t153 x8_2 x9_2 = some r) ∧ Aside0 (kq ≤ kj4) ∧ Aside0 (Kd.R (Kd.int .u8) 5 w' w.heap.size (fun _ => True) v158 x8_2) ∧ Aside0 (Below w.heap.size w w'))
            case atStart => exact ⟨(y157), (0), (by first | rfl | (simp; done) | (simp [*]; done)), H', ⟨Nat.le_refl _⟩, ⟨by (with_reducible repeat (first | apply Kd.R_alloc | apply Kd.R_drewN | apply Kd.R_drew)); exact HO159.out⟩, ⟨by repeat (first | (with_reducible first | exact HB.out | apply below_alloc | apply pw_below_drewN | apply below_drew1) | exact HB.out)⟩⟩
            case round =>
              clear H'
              try clear c1
              try clear p2
              try clear p6
              try clear c7
              try clear c7b0
              try clear c7b1
              try clear c8
              try clear c8b0
              try clear c8b1
              try clear c9
              try clear c9b0
              try clear c10
              try clear c11
              try clear c11b0
              try clear c11b1
              try clear c12
              try clear p2
              obtain ⟨x8_2, x9_2, rfl, HA, HK2, HO_8, HB⟩ := hrel
              cases gk with
              | zero => exact absurd HA.out (by simp [strakelaw01_CrcTurned.l0])
              | succ k2 =>
                have H := HA.out
                clear HA
                simp only [strakelaw01_CrcTurned.l0] at H
                by_cases c16 : x9_2 < 4
                · rw [if_pos c16] at H
                  have c16b0 : decide (x9_2 < 4) = true := decide_eq_true c16
                  clear c16
                  obtain ⟨ji17, hji17⟩ : ∃ j_ : Int, (wrap64 ((Int.tmod a1 (wrap64 ((l0.length : Int) - 3))) + x9_2)) = j_ := ⟨_, rfl⟩
                  replace H : (if 0 ≤ (ji17) then (if (ji17) < (x8_2.length : Int) then (if 0 ≤ (wrap64 (8 * x9_2)) then (strakelaw01_CrcTurned.l0 k2 l0 (Int.tmod a1 (wrap64 ((l0.length : Int) - 3))) a2 t153 (x8_2.set ((ji17) : Int).toNat (Go.bits .xor .u8 (rd x8_2 (ji17)) ((shr .u32 a2 (wrap64 (8 * x9_2))) % 256))) (wrap64 (x9_2 + 1))) else (none)) else (none)) else (none)) = some r := by first | (rw [hji17] at H; exact H) | (simp only [hji17] at H ⊢; exact H)
                  have hji17w : (IntKind.i64.wrap ((Int.tmod a1 (wrap64 ((l0.length : Int) - 3))) + x9_2)) = ji17 := (i64_w _).trans hji17
                  by_cases c18 : 0 ≤ (ji17)
                  · rw [if_pos c18] at H
                    have c18b0 : decide (0 ≤ (ji17)) = true := decide_eq_true c18
                    clear c18
                    by_cases c19 : (ji17) < (x8_2.length : Int)
                    · rw [if_pos c19] at H
                      have c19b0 : decide ((ji17) < (x8_2.length : Int)) = true := decide_eq_true c19
                      clear c19
                      obtain ⟨ji20, hji20⟩ : ∃ j_ : Int, (wrap64 (8 * x9_2)) = j_ := ⟨_, rfl⟩
                      replace H : (if 0 ≤ (ji20) then (strakelaw01_CrcTurned.l0 k2 l0 (Int.tmod a1 (wrap64 ((l0.length : Int) - 3))) a2 t153 (x8_2.set ((ji17) : Int).toNat (Go.bits .xor .u8 (rd x8_2 (ji17)) ((shr .u32 a2 (ji20)) % 256))) (wrap64 (x9_2 + 1))) else (none)) = some r := by first | (rw [hji20] at H; exact H) | (simp only [hji20] at H ⊢; exact H)
                      have hji20w : (IntKind.i64.wrap (8 * x9_2)) = ji20 := (i64_w _).trans hji20
                      by_cases c21 : 0 ≤ (ji20)
                      · rw [if_pos c21] at H
                        have c21b0 := eq_true c21
                        have c21b1 : decide (0 ≤ (ji20)) = true := decide_eq_true c21
                        clear c21
                        obtain ⟨ji22, hji22⟩ : ∃ j_ : Int, (shr .u32 a2 (ji20)) = j_ := ⟨_, rfl⟩
                        replace H : (strakelaw01_CrcTurned.l0 k2 l0 (Int.tmod a1 (wrap64 ((l0.length : Int) - 3))) a2 t153 (x8_2.set ((ji17) : Int).toNat (Go.bits .xor .u8 (rd x8_2 (ji17)) ((ji22) % 256))) (wrap64 (x9_2 + 1))) = some r := by first | (rw [hji22] at H; exact H) | (simp only [hji22] at H ⊢; exact H)
                        have hji22_ : (a2 / 2 ^ min (ji20).toNat 32) = ji22 := hji22
                        have hji22z : (ji20) ≤ 32 → (a2 / 2 ^ (ji20).toNat) = ji22 := shr_small hji22
                        obtain ⟨y161, hy161⟩ : ∃ y_ : List Int, y_ = (x8_2.set ((ji17) : Int).toNat (Go.bits .xor .u8 (rd x8_2 (ji17)) ((ji22) % 256))) := ⟨_, rfl⟩
                        replace H : (strakelaw01_CrcTurned.l0 k2 l0 (Int.tmod a1 (wrap64 ((l0.length : Int) - 3))) a2 t153 y161 (wrap64 (x9_2 + 1))) = some r := by first | (rw [hy161]; with_reducible exact H) | (have H2_ := (Option.bind_some _ _).symm.trans H; rw [hy161]; with_reducible exact H2_) | (have H2_ := (Option.bind_some _ _).symm.trans H; with_reducible exact H2_) | with_reducible exact H | (rw [hy161]; exact H) | exact H
                        have Ny161 := Aside0.mk hy161
                        clear hy161
                        have H' := Aside0.mk H
                        clear H
                        try go_wp2
                        have n0_ := Aside0.mk (Kd.R_drew HO_8.out)
                        have n1_ := Aside0.mk (below_drew1 HB.out)
                        clear HO_8
                        clear HB
                        have HO_8 := n0_
                        have HB := n1_
                        clear n0_ n1_
                        obtain ⟨Ao25, co25, eo25⟩ := Kd.R_slice HO_8.out
                        (first | subst eo25 | (injection eo25 with f1_ f2_ f3_; have f4_ := f1_.symm; have f5_ := f3_.symm; clear f1_ f2_ f3_; subst f4_; subst f5_))
                        have p160 : 0 ≤ ((ji17) : Int) := of_decide_eq_true (by first | (with_reducible assumption) | assumption)
                        have q160 : (ji17) < (x8_2.length : Int) := of_decide_eq_true (by first | (with_reducible assumption) | assumption)
                        obtain ⟨ad160, e160, hx160_0⟩ := Kd.at_int (Kd.R_reads' HO_8.out).2.2 (ji17) p160 q160
                        cases e160
                        replace p160 := eq_true p160
                        replace q160 := eq_true q160
                        have p23 : 0 ≤ ((ji17) : Int) := of_decide_eq_true (by first | (with_reducible assumption) | assumption)
                        have q23 : ((ji17) : Int) < ((x8_2.length : Int) : Int) := of_decide_eq_true (by first | (with_reducible assumption) | assumption)
                        obtain ⟨go23, co23, eo23, gb23, gl23, cl23, HG23⟩ := Kd.R_form HO_8.out (by omega)
                        (first | cases eo23 | (injection eo23 with ea_ en_ ec_; (first | subst ea_ | (injection ea_ with ea_; subst ea_)); subst ec_; clear en_))
                        have GB23 := Aside0.mk gb23
                        have GG23 := Aside0.mk HG23
                        clear gb23 gl23 HG23
                        (first | simp only [add_plain] at hx160_0 | skip)
                        obtain ⟨hx23_0, hf23_0⟩ := Kd.R_celln 0 HO_8.out ((ji17) : Int) p23 q23
                        replace p23 := eq_true p23
                        replace q23 := eq_true q23
                        have HP26 := Kd.R_putn HO_8.out ((ji17) : Int) (Go.bits .xor .u8 (rd x8_2 (ji17)) ((ji22) % 256))
                        rw [← Ny161.out] at HP26
                        have HQ26 := Aside0.mk HP26
                        clear HP26
                        refine start_ (n := 18) (S := fun w' => w'.cell? ⟨go23, ((ji17)).toNat, none⟩ = some (.int .u8 (rd x8_2 (ji17)))) (ds := [17]) #[false, false, false, false, false, false, false, false, false, false, false, false, false, false, false, false, false, false] (by kernel_rfl) rfl rfl (hx160_0) (fun hHeld => ?_); refine with_tabW strakelaw01_CrcTurned.tab9 strakelaw01_CrcTurned.bits9 (fun HT_ HW_ => ?_)
                        generalize wr.drew = w24 at HO_8 HB GG23 HQ26 hf23_0 hx160_0 hx23_0 hHeld ⊢
                        refine pure_ (i := 0) (N := some 40) (v := ?_) (a' := ?_) #[true, false, false, false, false, false, false, false, false, false, false, false, false, false, false, false, false, false] rfl rfl (any_of HT_.out (by kernel_rfl)) (fun _ _ _ h => h) (Or.inl ⟨by rfl, ?_⟩) ?_ ?_
                        rotate_left
                        · intro w'
                          go_simp
                          with_reducible rfl
                        rotate_left
                        · simp only [Act.put, List.setIfInBounds_toArray, List.set_cons_zero, List.set_cons_succ, i64_w, i32_w]
                          rfl
                        refine pure_ (i := 1) (N := some 41) (v := ?_) (a' := ?_) #[true, true, false, false, false, false, false, false, false, false, false, false, false, false, false, false, false, false] rfl rfl (any_of HT_.out (by kernel_rfl)) (fun _ _ _ h => h) (Or.inl ⟨by rfl, ?_⟩) ?_ ?_
                        rotate_left
                        · intro w'
                          go_simp
                          with_reducible rfl
                        rotate_left
                        · simp only [Act.put, List.setIfInBounds_toArray, List.set_cons_zero, List.set_cons_succ, i64_w, i32_w]
                          rfl
                        refine pure_ (i := 2) (N := some 42) (v := ?_) (a' := ?_) #[true, true, true, false, false, false, false, false, false, false, false, false, false, false, false, false, false, false] rfl rfl (any_of HT_.out (by kernel_rfl)) (fun _ _ _ h => h) (Or.inl ⟨by rfl, ?_⟩) ?_ ?_
                        rotate_left
                        · intro w'
                          go_simp
                          with_reducible rfl
                        rotate_left
                        · simp only [Act.put, List.setIfInBounds_toArray, List.set_cons_zero, List.set_cons_succ, i64_w, i32_w]
                          rfl
                        refine pure_ (i := 3) (N := some 43) (v := ?_) (a' := ?_) #[true, true, true, true, false, false, false, false, false, false, false, false, false, false, false, false, false, false] rfl rfl (any_of HT_.out (by kernel_rfl)) (fun _ _ _ h => h) (Or.inl ⟨by rfl, ?_⟩) ?_ ?_
                        rotate_left
                        · intro w'
                          go_simp
                          with_reducible rfl
                        rotate_left
                        · simp only [Act.put, List.setIfInBounds_toArray, List.set_cons_zero, List.set_cons_succ, i64_w, i32_w]
                          rfl
                        refine pure_ (i := 4) (N := some 44) (v := ?_) (a' := ?_) #[true, true, true, true, true, false, false, false, false, false, false, false, false, false, false, false, false, false] rfl rfl (any_of HT_.out (by kernel_rfl)) (fun _ _ _ h => h) (Or.inl ⟨by rfl, ?_⟩) ?_ ?_
                        rotate_left
                        · intro w'
                          go_simp
                          with_reducible rfl
                        rotate_left
                        · simp only [Act.put, List.setIfInBounds_toArray, List.set_cons_zero, List.set_cons_succ, i64_w, i32_w]
                          rfl
                        refine pure_ (i := 5) (N := some 45) (v := ?_) (a' := ?_) #[true, true, true, true, true, true, false, false, false, false, false, false, false, false, false, false, false, false] rfl rfl (any_of HT_.out (by kernel_rfl)) (fun _ _ _ h => h) (Or.inl ⟨by rfl, ?_⟩) ?_ ?_
                        rotate_left
                        · intro w'
                          go_simp
                          with_reducible rfl
                        rotate_left
                        · simp only [Act.put, List.setIfInBounds_toArray, List.set_cons_zero, List.set_cons_succ, i64_w, i32_w]
                          rfl
                        refine pure_ (i := 6) (N := some 46) (v := ?_) (a' := ?_) #[true, true, true, true, true, true, true, false, false, false, false, false, false, false, false, false, false, false] rfl rfl (any_of HT_.out (by kernel_rfl)) (fun _ _ _ h => h) (Or.inl ⟨by rfl, ?_⟩) ?_ ?_
                        rotate_left
                        · intro w'
                          go_simp
                          with_reducible rfl
                        rotate_left
                        · simp only [Act.put, List.setIfInBounds_toArray, List.set_cons_zero, List.set_cons_succ, i64_w, i32_w]
                          rfl
                        refine pure_ (i := 7) (N := some 47) (v := ?_) (a' := ?_) #[true, true, true, true, true, true, true, true, false, false, false, false, false, false, false, false, false, false] rfl rfl (any_of HT_.out (by kernel_rfl)) (fun _ _ _ h => h) (Or.inl ⟨by rfl, ?_⟩) ?_ ?_
                        rotate_left
                        · intro w'
                          go_simp
                          with_reducible rfl
                        rotate_left
                        · simp only [Act.put, List.setIfInBounds_toArray, List.set_cons_zero, List.set_cons_succ, i64_w, i32_w]
                          rfl
                        refine pure_ (i := 8) (N := some 48) (v := ?_) (a' := ?_) #[true, true, true, true, true, true, true, true, true, false, false, false, false, false, false, false, false, false] rfl rfl (any_of HT_.out (by kernel_rfl)) (fun _ _ _ h => h) (Or.inl ⟨by rfl, ?_⟩) ?_ ?_
                        rotate_left
                        · intro w'
                          go_simp
                          with_reducible rfl
                        rotate_left
                        · simp only [Act.put, List.setIfInBounds_toArray, List.set_cons_zero, List.set_cons_succ, i64_w, i32_w]
                          rfl
                        refine pure_ (i := 10) (N := some 50) (v := ?_) (a' := ?_) #[true, true, true, true, true, true, true, true, true, false, true, false, false, false, false, false, false, false] rfl rfl (any_of HT_.out (by kernel_rfl)) (fun _ _ _ h => h) (Or.inl ⟨by rfl, ?_⟩) ?_ ?_
                        rotate_left
                        · intro w'
                          go_simp
                          with_reducible rfl
                        rotate_left
                        · simp only [Act.put, List.setIfInBounds_toArray, List.set_cons_zero, List.set_cons_succ, i64_w, i32_w]
                          rfl
                        refine pure_ (i := 11) (N := some 51) (v := ?_) (a' := ?_) #[true, true, true, true, true, true, true, true, true, false, true, true, false, false, false, false, false, false] rfl rfl (any_of HT_.out (by kernel_rfl)) (fun _ _ _ h => h) (Or.inl ⟨by rfl, ?_⟩) ?_ ?_
                        rotate_left
                        · intro w'
                          go_simp
                          with_reducible rfl
                        rotate_left
                        · simp only [Act.put, List.setIfInBounds_toArray, List.set_cons_zero, List.set_cons_succ, i64_w, i32_w]
                          rfl
                        refine pure_ (i := 12) (N := some 52) (v := ?_) (a' := ?_) #[true, true, true, true, true, true, true, true, true, false, true, true, true, false, false, false, false, false] rfl rfl (any_of HT_.out (by kernel_rfl)) (fun _ _ _ h => h) (Or.inl ⟨by rfl, ?_⟩) ?_ ?_
                        rotate_left
                        · intro w'
                          go_simp
                          with_reducible rfl
                        rotate_left
                        · simp only [Act.put, List.setIfInBounds_toArray, List.set_cons_zero, List.set_cons_succ, i64_w, i32_w]
                          rfl
                        refine pure_ (i := 13) (N := some 53) (v := ?_) (a' := ?_) #[true, true, true, true, true, true, true, true, true, false, true, true, true, true, false, false, false, false] rfl rfl (any_of HT_.out (by kernel_rfl)) (fun _ _ _ h => h) (Or.inl ⟨by rfl, ?_⟩) ?_ ?_
                        rotate_left
                        · intro w'
                          go_simp
                          with_reducible rfl
                        rotate_left
                        · simp only [Act.put, List.setIfInBounds_toArray, List.set_cons_zero, List.set_cons_succ, i64_w, i32_w]
                          rfl
                        refine pure_ (i := 14) (N := some 54) (v := ?_) (a' := ?_) #[true, true, true, true, true, true, true, true, true, false, true, true, true, true, true, false, false, false] rfl rfl (any_of HT_.out (by kernel_rfl)) (fun _ _ _ h => h) (Or.inl ⟨by rfl, ?_⟩) ?_ ?_
                        rotate_left
                        · intro w'
                          go_simp
                          with_reducible rfl
                        rotate_left
                        · simp only [Act.put, List.setIfInBounds_toArray, List.set_cons_zero, List.set_cons_succ, i64_w, i32_w]
                          rfl
                        refine take_ (i := 9) (N := some 49) (v := ?_) (a' := ?_) #[true, true, true, true, true, true, true, true, true, true, true, true, true, true, true, false, false, false] rfl rfl (take_ofW HT_.out HW_.out (by kernel_rfl)) (fun _ _ _ h => h) (Or.inl ⟨by rfl, ?_⟩) hHeld ?_ ?_
                        rotate_left
                        · intro w' s0
                          go_simp
                          with_reducible rfl
                        rotate_left
                        · simp only [Act.put, List.setIfInBounds_toArray, List.set_cons_zero, List.set_cons_succ, i64_w, i32_w]
                          rfl
                        refine pure_ (i := 15) (N := some 55) (v := ?_) (a' := ?_) #[true, true, true, true, true, true, true, true, true, true, true, true, true, true, true, true, false, false] rfl rfl (any_of HT_.out (by kernel_rfl)) (fun _ _ _ h => h) (Or.inl ⟨by rfl, ?_⟩) ?_ ?_
                        rotate_left
                        · intro w'
                          go_simp
                          with_reducible rfl
                        rotate_left
                        · simp only [Act.put, List.setIfInBounds_toArray, List.set_cons_zero, List.set_cons_succ, i64_w, i32_w]
                          rfl
                        refine pure_ (i := 16) (N := some 56) (v := ?_) (a' := ?_) #[true, true, true, true, true, true, true, true, true, true, true, true, true, true, true, true, true, false] rfl rfl (any_of HT_.out (by kernel_rfl)) (fun _ _ _ h => h) (Or.inl ⟨by rfl, ?_⟩) ?_ ?_
                        rotate_left
                        · intro w'
                          go_simp
                          with_reducible rfl
                        rotate_left
                        · simp only [Act.put, List.setIfInBounds_toArray, List.set_cons_zero, List.set_cons_succ, i64_w, i32_w]
                          rfl
                        refine last_ (i := 17) (N := none) #[true, true, true, true, true, true, true, true, true, true, true, true, true, true, true, true, true, true] rfl rfl (one_of HT_.out (by kernel_rfl)) (by decide) (fun K hK => ?_)
                        refine skip_ (w1 := ?_) (by rfl) rfl ?_ ?_
                        rotate_left
                        · go_simp
                          rfl
                        refine hK.out _ _ ?_
                        clear hK K
                        refine done_ (done_of HT_.out (by kernel_rfl)) ?_
                        try go_wp2
                        go_roundg k2
                        case measure => have := HJ4.out; have := HK2.out; omega
                        case rel => exact ⟨(y161), (wrap64 (x9_2 + 1)), (by first | rfl | (simp; done) | (simp [*]; done)), H', ⟨by have := HJ4.out; have := HK2.out; omega⟩, ⟨by (with_reducible repeat (first | apply Kd.R_alloc | apply Kd.R_drewN | apply Kd.R_drew)); exact HQ26.out⟩, ⟨by repeat (first | (with_reducible first | exact HB.out | apply below_alloc | apply pw_below_drewN | apply below_drew1 | refine below_set ?_ GB23.out) | exact HB.out)⟩⟩
                      · rw [if_neg c21] at H
                        exact absurd H (by simp)
                    · rw [if_neg c19] at H
                      exact absurd H (by simp)
                  · rw [if_neg c18] at H
                    exact absurd H (by simp)
                · rw [if_neg c16] at H
                  have c16b0 : decide (x9_2 < 4) = false := decide_eq_false c16
                  clear c16
                  by_cases c27 : t153 = true
                  · subst c27
                    have H1 : ((crc_Sum.f k2 x8_2).bind fun t162 => ((crc_Sum.f k2 l0).bind fun t163 => (some (t162 != t163)))) = some r := by rw [if_pos rfl] at H; exact H
                    clear H
                    have H := H1
                    clear H1
                    replace H := Option.bind_eq_some_iff.mp H
                    obtain ⟨t162, A280, H⟩ := H
                    replace H : ((crc_Sum.f k2 l0).bind fun t163 => (some (t162 != t163))) = some r := H
                    have A28 := Aside0.mk A280
                    clear A280
                    replace H := Option.bind_eq_some_iff.mp H
                    obtain ⟨t163, A290, H⟩ := H
                    replace H : (some (t162 != t163)) = some r := H
                    have A29 := Aside0.mk A290
                    clear A290
                    obtain rfl := Option.some.inj H
                    obtain ⟨Ao30, co30, eo30⟩ := Kd.R_slice HO_8.out
                    subst eo30
                    go_wp2_with (first | (go_at_call 11; (with_reducible refine (crc_Sum.calls k2 _ _ x8_2 t162 _ ?side1 ?side2 A28.out).mono ?_); (case side1 => repeat (first | exact (Kd.R_reads' HO_8.out).2.2 | (with_reducible refine Kd.C_alloc ?_ _) | (with_reducible refine Kd.C_drewN ?_ _) | (with_reducible refine Kd.C_drew ?_))); (case side2 => exact (Kd.R_reads' HO_8.out).2.1); rintro e w' ⟨rfl, ⟨nd, rfl⟩⟩) | (go_at_call 11; (with_reducible refine (crc_Sum.calls k2 _ _ l0 t163 _ ?side1 ?side2 A29.out).mono ?_); (case side1 => repeat (first | exact (Kd.C_below HR0.out (by repeat (first | (with_reducible first | exact HB.out | apply below_alloc | apply pw_below_drewN | apply below_drew1) | exact HB.out))) | (with_reducible refine Kd.C_alloc ?_ _) | (with_reducible refine Kd.C_drewN ?_ _) | (with_reducible refine Kd.C_drew ?_))); (case side2 => exact HC0.out); rintro e w' ⟨rfl, ⟨nd, rfl⟩⟩))
                    go_ret
                    exact ⟨by first | rfl | (simp [errW_none, errW_some] <;> rfl) | (simp [*, errW_none, errW_some] <;> rfl), by repeat (first | (with_reducible first | exact HB.out | apply below_alloc | apply pw_below_drewN | apply below_drew1) | exact HB.out)⟩
                  · replace c27 := Bool.eq_false_iff.mpr c27
                    subst c27
                    have H1 : (some false) = some r := by rw [if_neg (show ¬ (false = true) by decide)] at H; exact H
                    clear H
                    have H := H1
                    clear H1
                    obtain rfl := Option.some.inj H
                    go_wp2
                    go_ret
                    exact ⟨by first | rfl | (simp [errW_none, errW_some] <;> rfl) | (simp [*, errW_none, errW_some] <;> rfl), by repeat (first | (with_reducible first | exact HB.out | apply below_alloc | apply pw_below_drewN | apply below_drew1) | exact HB.out)⟩
          · rw [if_neg c12] at H
            exact absurd H (by simp)

/-- THE ONE PURE STATEMENT of strakelaw01_CrcTurned: yours. -/
def strakelaw01_CrcTurned.Pure : Prop := ∀ (l0 : List Int) (a1 : Int) (a2 : Int), l0.length ≤ maxLen → l0.length * 1 ≤ 140737488351232 → (∀ x ∈ l0, (Lit.int .u8 x).wf = true) → (Lit.int .i64 a1).wf = true → (Lit.int .u32 a2).wf = true → ∃ k, strakelaw01_CrcTurned.f k l0 a1 a2 = some true
theorem strakelaw01_CrcTurned.walk (P : strakelaw01_CrcTurned.Pure) (a0 : Option Addr) (len0 cap0 : Nat) (z0 : List Int) (a1 : Int) (a2 : Int) (w : World) (w0 : (a0 = none ∧ len0 = 0 ∧ cap0 = 0 ∧ z0 = []) ∨ ∃ x, a0 = some x ∧ len0 ≤ cap0 ∧ cap0 ≤ maxLen ∧ z0.length = cap0 ∧ (∀ i, i < z0.length → w.cell? (x.add i) = some (.int .u8 (z0.getD i 0))) ∧ ∀ n ∈ z0, (Lit.int .u8 n).wf = true) (y0 : len0 * 1 ≤ 140737488351232) (w1 : (Lit.int .i64 a1).wf = true) (w2 : (Lit.int .u32 a2).wf = true) :
    Calls Try.prog 7 #[.slice a0 len0 cap0, .int .i64 a1, .int .u32 a2] w fun e w' => e = .returned (.bool true) ∧ Below w.heap.size w w' := by
  obtain ⟨l0, rfl, hr0, hm0, hw0, hc0⟩ := ReadsInt.ofRowC w0
  obtain ⟨k, h⟩ := P l0 a1 a2 hm0 y0 hw0 w1 w2
  refine (strakelaw01_CrcTurned.calls k _ _ l0 a1 a2 true w (Kd.C_of_reads (d := (0 : Int)) (h1 := fun _ => rfl) hr0) hc0 h).mono ?_
  rintro e w' ⟨rfl, hd⟩
  exact ⟨rfl, hd⟩

/-! ### strakelaw01_CrcPieces: function 8 -/
mutual
def strakelaw01_CrcPieces.l0 : Nat → List Int → List Int → Bool → Int → Int → Int → Option (Bool)
  | 0, _, _, _, _, _, _ => none
  | k + 1, x0, x1, x5, x6, x7, x8 => if x8 < (x1.length : Int) then (strakelaw01_CrcPieces.j1 k x0 x1 x5 x6 x7 x8 (decide (x8 < 100))) else (strakelaw01_CrcPieces.j1 k x0 x1 x5 x6 x7 x8 false)
def strakelaw01_CrcPieces.j1 : Nat → List Int → List Int → Bool → Int → Int → Int → Bool → Option (Bool)
  | 0, _, _, _, _, _, _, _ => none
  | k + 1, x0, x1, x5, x6, x7, x8, x21 => if x21 = true then (if 0 ≤ x8 then (if x8 < (x1.length : Int) then (if (rd x1 x8) ≥ x7 then (if (rd x1 x8) ≤ (x0.length : Int) then (if 0 ≤ x7 then (if x7 ≤ (rd x1 x8) then ((crc_Add.f k x6 ((x0.take ((rd x1 x8) : Int).toNat).drop (x7 : Int).toNat)).bind fun t172 => (strakelaw01_CrcPieces.l0 k x0 x1 x5 t172 (rd x1 x8) (wrap64 (x8 + 1)))) else (none)) else (none)) else (strakelaw01_CrcPieces.l0 k x0 x1 x5 x6 x7 (wrap64 (x8 + 1)))) else (strakelaw01_CrcPieces.l0 k x0 x1 x5 x6 x7 (wrap64 (x8 + 1)))) else (none)) else (none)) else (if x5 = true then (if 0 ≤ x7 then (if x7 ≤ (x0.length : Int) then ((crc_Add.f k x6 (x0.drop (x7 : Int).toNat)).bind fun t178 => ((crc_Sum.f k x0).bind fun t179 => (some (t178 == t179)))) else (none)) else (none)) else (some false))
end
def strakelaw01_CrcPieces.f (k : Nat) (l0 : List Int) (l1 : List Int) : Option (Bool) := (strakelaw01_awake.f k).bind fun t164 => (if (l0.length : Int) > 20000 then (some t164) else (strakelaw01_CrcPieces.l0 k l0 l1 t164 0 0 0))
theorem strakelaw01_CrcPieces.mono_l : ∀ k, (∀ y0 y1 y2 y3 y4 y5, LeO (strakelaw01_CrcPieces.l0 k y0 y1 y2 y3 y4 y5) (strakelaw01_CrcPieces.l0 (k + 1) y0 y1 y2 y3 y4 y5)) ∧ (∀ y0 y1 y2 y3 y4 y5 y6, LeO (strakelaw01_CrcPieces.j1 k y0 y1 y2 y3 y4 y5 y6) (strakelaw01_CrcPieces.j1 (k + 1) y0 y1 y2 y3 y4 y5 y6))
  | 0 => ⟨fun _ _ _ _ _ _ r h => by simp [strakelaw01_CrcPieces.l0] at h, fun _ _ _ _ _ _ _ r h => by simp [strakelaw01_CrcPieces.j1] at h⟩
  | k + 1 => by
    obtain ⟨ih0, ih1⟩ := strakelaw01_CrcPieces.mono_l k
    refine ⟨?_, ?_⟩
    · intro y0 y1 y2 y3 y4 y5
      unfold strakelaw01_CrcPieces.l0
      repeat' first
      | (with_reducible exact ih0 _ _ _ _ _ _)
      | (with_reducible exact ih1 _ _ _ _ _ _ _)
      | (with_reducible exact crc_Add.mono _ _ _)
      | (with_reducible exact crc_Sum.mono _ _)
      | (with_reducible exact strakelaw01_awake.mono _)
      | (with_reducible exact LeO.refl _)
      | (with_reducible exact LeO.none _)
      | (with_reducible refine LeO.ite ?_ ?_)
      | (with_reducible refine LeO.bind ?_ (fun _ => ?_))
      | exact ih0 _ _ _ _ _ _
      | exact ih1 _ _ _ _ _ _ _
      | exact crc_Add.mono _ _ _
      | exact crc_Sum.mono _ _
      | exact strakelaw01_awake.mono _
      | exact LeO.none _
      | refine LeO.ite ?_ ?_
      | refine LeO.bind ?_ (fun _ => ?_)
    · intro y0 y1 y2 y3 y4 y5 y6
      unfold strakelaw01_CrcPieces.j1
      repeat' first
      | (with_reducible exact ih0 _ _ _ _ _ _)
      | (with_reducible exact ih1 _ _ _ _ _ _ _)
      | (with_reducible exact crc_Add.mono _ _ _)
      | (with_reducible exact crc_Sum.mono _ _)
      | (with_reducible exact strakelaw01_awake.mono _)
      | (with_reducible exact LeO.refl _)
      | (with_reducible exact LeO.none _)
      | (with_reducible refine LeO.ite ?_ ?_)
      | (with_reducible refine LeO.bind ?_ (fun _ => ?_))
      | exact ih0 _ _ _ _ _ _
      | exact ih1 _ _ _ _ _ _ _
      | exact crc_Add.mono _ _ _
      | exact crc_Sum.mono _ _
      | exact strakelaw01_awake.mono _
      | exact LeO.none _
      | refine LeO.ite ?_ ?_
      | refine LeO.bind ?_ (fun _ => ?_)
theorem strakelaw01_CrcPieces.mono : ∀ a0 a1 k, LeO (strakelaw01_CrcPieces.f k a0 a1) (strakelaw01_CrcPieces.f (k + 1) a0 a1) := by
  intro a0 a1 k
  obtain ⟨ih0, ih1⟩ := strakelaw01_CrcPieces.mono_l k
  unfold strakelaw01_CrcPieces.f
  repeat' first
      | (with_reducible exact ih0 _ _ _ _ _ _)
      | (with_reducible exact ih1 _ _ _ _ _ _ _)
      | (with_reducible exact crc_Add.mono _ _ _)
      | (with_reducible exact crc_Sum.mono _ _)
      | (with_reducible exact strakelaw01_awake.mono _)
      | (with_reducible exact LeO.refl _)
      | (with_reducible exact LeO.none _)
      | (with_reducible refine LeO.ite ?_ ?_)
      | (with_reducible refine LeO.bind ?_ (fun _ => ?_))
      | exact ih0 _ _ _ _ _ _
      | exact ih1 _ _ _ _ _ _ _
      | exact crc_Add.mono _ _ _
      | exact crc_Sum.mono _ _
      | exact strakelaw01_awake.mono _
      | exact LeO.none _
      | refine LeO.ite ?_ ?_
      | refine LeO.bind ?_ (fun _ => ?_)
set_option maxHeartbeats 8000000 in
set_option maxRecDepth 100000 in
theorem strakelaw01_CrcPieces.calls (k : Nat) (A0 : Option Addr) (c0 : Nat) (l0 : List Int) (A1 : Option Addr) (c1 : Nat) (l1 : List Int) (r : Bool) (w : World) (hr0 : Kd.C (Kd.int .u8) w A0 l0.length l0) (hc0 : l0.length ≤ c0) (hr1 : Kd.C (Kd.int .i64) w A1 l1.length l1) (hc1 : l1.length ≤ c1) (h : strakelaw01_CrcPieces.f k l0 l1 = some r) :
    Calls Try.prog 8 #[.slice A0 l0.length c0, .slice A1 l1.length c1] w fun e w' => e = .returned (.bool r) ∧ Below w.heap.size w w' := by
  have HR0 := Aside0.mk hr0
  have HC0 := Aside0.mk hc0
  clear hr0 hc0
  have HR1 := Aside0.mk hr1
  have HC1 := Aside0.mk hc1
  clear hr1 hc1
  have HB := Aside0.mk (Below.refl w.heap.size w)
  have H : ((strakelaw01_awake.f k).bind fun t164 => (if (l0.length : Int) > 20000 then (some t164) else (strakelaw01_CrcPieces.l0 k l0 l1 t164 0 0 0))) = some r := h
  clear h
  replace H := Option.bind_eq_some_iff.mp H
  obtain ⟨t164, A30, H⟩ := H
  replace H : (if (l0.length : Int) > 20000 then (some t164) else (strakelaw01_CrcPieces.l0 k l0 l1 t164 0 0 0)) = some r := H
  have A3 := Aside0.mk A30
  clear A30
  by_cases c4 : (l0.length : Int) > 20000
  · rw [if_pos c4] at H
    have c4b0 : decide (20000 < (l0.length : Int)) = true := decide_eq_true c4
    have c4b1 : decide (20000 < l0.length) = true := decide_eq_true (by omega)
    clear c4
    obtain rfl := Option.some.inj H
    go_enter Try.func8, Try.ntmps8
    go_wp2_with (first | ((with_reducible refine gate_callee (f := 10) rfl ?_); refine goesL_ (some 9) rfl rfl Try.func10 (by kernel_rfl) rfl #[] rfl (by (try simp only [List.map_toArray, List.map_cons, List.map_nil]); first | done | rfl | (simp only [List.length_drop, List.length_take]; rfl)) ?_; (with_reducible refine (strakelaw01_awake.calls k  t164 _ A3.out).mono ?_); rintro e w5 ⟨rfl, hb⟩; refine ⟨_, rfl, ?_⟩; have n0_ := Aside0.mk (below_step (by repeat (first | (with_reducible first | exact HB.out | apply below_alloc | apply pw_below_drewN | apply below_drew1) | exact HB.out)) hb); clear HB; have HB := n0_; clear n0_; (try clear hb); (try clear hb2); (try clear hk); (try clear hi)))
    go_ret
    exact ⟨by first | rfl | (simp [errW_none, errW_some] <;> rfl) | (simp [*, errW_none, errW_some] <;> rfl), by repeat (first | (with_reducible first | exact HB.out | apply below_alloc | apply pw_below_drewN | apply below_drew1) | exact HB.out)⟩
  · rw [if_neg c4] at H
    have c4b0 : decide (20000 < (l0.length : Int)) = false := decide_eq_false c4
    have c4b1 : decide (20000 < l0.length) = false := decide_eq_false (by omega)
    clear c4
    have H' := Aside0.mk H
    clear H
    go_enter Try.func8, Try.ntmps8
    go_wp2_with (first | ((with_reducible refine gate_callee (f := 10) rfl ?_); refine goesL_ (some 9) rfl rfl Try.func10 (by kernel_rfl) rfl #[] rfl (by (try simp only [List.map_toArray, List.map_cons, List.map_nil]); first | done | rfl | (simp only [List.length_drop, List.length_take]; rfl)) ?_; (with_reducible refine (strakelaw01_awake.calls k  t164 _ A3.out).mono ?_); rintro e w6 ⟨rfl, hb⟩; refine ⟨_, rfl, ?_⟩; have n0_ := Aside0.mk (below_step (by repeat (first | (with_reducible first | exact HB.out | apply below_alloc | apply pw_below_drewN | apply below_drew1) | exact HB.out)) hb); clear HB; have HB := n0_; clear n0_; (try clear hb); (try clear hb2); (try clear hk); (try clear hi)))
    go_loopg [6, 7, 8] k (fun kq v6 v7 v8 w' => ∃ (x6_1 : Int) (x7_1 : Int) (x8_1 : Int), v6 = .int .u32 x6_1 ∧ v7 = .int .i64 x7_1 ∧ v8 = .int .i64 x8_1 ∧ Aside0 (strakelaw01_CrcPieces.l0 kq l0 l1 t164 x6_1 x7_1 x8_1 = some r) ∧ Aside0 (kq ≤ k) ∧ Aside0 (Below w.heap.size w w'))
    case atStart => exact ⟨(0), (0), (0), (by first | rfl | (simp; done) | (simp [*]; done)), (by first | rfl | (simp; done) | (simp [*]; done)), (by first | rfl | (simp; done) | (simp [*]; done)), H', ⟨Nat.le_refl _⟩, ⟨by repeat (first | (with_reducible first | exact HB.out | apply below_alloc | apply pw_below_drewN | apply below_drew1) | exact HB.out)⟩⟩
    case round =>
      clear H'
      try clear c1
      try clear p2
      try clear c4
      try clear c4b0
      try clear c4b1
      obtain ⟨x6_1, x7_1, x8_1, rfl, rfl, rfl, HA, HK1, HB⟩ := hrel
      cases gk with
      | zero => exact absurd HA.out (by simp [strakelaw01_CrcPieces.l0])
      | succ k1 =>
        have H := HA.out
        clear HA
        simp only [strakelaw01_CrcPieces.l0] at H
        have HC7 := Aside0.mk H
        clear H
        go_upto_region 7 with (fail)
        go_cut [21] (fun v21 wc => ∃ (kq : Nat) (x21_6 : Bool), v21 = .bool x21_6 ∧ Aside0 (strakelaw01_CrcPieces.j1 kq l0 l1 t164 x6_1 x7_1 x8_1 x21_6 = some r) ∧ Aside0 (kq ≤ k1) ∧ Aside0 (Below w.heap.size w wc))
        case first =>
          have H := HC7.out
          clear HC7
          by_cases c8 : x8_1 < (l1.length : Int)
          · rw [if_pos c8] at H
            have c8b0 : decide (x8_1 < (l1.length : Int)) = true := decide_eq_true c8
            clear c8
            (first | rw [c8b0] | (simp only [i64_w, i32_w]; rw [c8b0]) | skip)
            have H' := Aside0.mk H
            clear H
            go_wp2
            go_meet
            case rel => exact ⟨_, (decide (x8_1 < 100)), (by first | rfl | (simp; done) | (simp [*]; done)), H', ⟨by have := HK1.out; first | omega | exact Nat.le_refl _⟩, ⟨by repeat (first | (with_reducible first | exact HB.out | apply below_alloc | apply pw_below_drewN | apply below_drew1) | exact HB.out)⟩⟩
          · rw [if_neg c8] at H
            have c8b0 : decide (x8_1 < (l1.length : Int)) = false := decide_eq_false c8
            clear c8
            (first | rw [c8b0] | (simp only [i64_w, i32_w]; rw [c8b0]) | skip)
            have H' := Aside0.mk H
            clear H
            go_wp2
            go_meet
            case rel => exact ⟨_, (false), (by first | rfl | (simp; done) | (simp [*]; done)), H', ⟨by have := HK1.out; first | omega | exact Nat.le_refl _⟩, ⟨by repeat (first | (with_reducible first | exact HB.out | apply below_alloc | apply pw_below_drewN | apply below_drew1) | exact HB.out)⟩⟩
        case rest =>
          clear HC7
          try clear c1
          try clear p2
          try clear c4
          try clear c4b0
          try clear c4b1
          try clear c8
          try clear c8b0
          try clear p2
          obtain ⟨kq, x21_6, rfl, HA, HJ6, HB⟩ := hcut
          cases kq with
          | zero => exact absurd HA.out (by simp [strakelaw01_CrcPieces.j1])
          | succ kj6 =>
            have H := HA.out
            clear HA
            simp only [strakelaw01_CrcPieces.j1] at H
            by_cases c9 : x21_6 = true
            · subst c9
              have H1 : (if 0 ≤ x8_1 then (if x8_1 < (l1.length : Int) then (if (rd l1 x8_1) ≥ x7_1 then (if (rd l1 x8_1) ≤ (l0.length : Int) then (if 0 ≤ x7_1 then (if x7_1 ≤ (rd l1 x8_1) then ((crc_Add.f kj6 x6_1 ((l0.take ((rd l1 x8_1) : Int).toNat).drop (x7_1 : Int).toNat)).bind fun t172 => (strakelaw01_CrcPieces.l0 kj6 l0 l1 t164 t172 (rd l1 x8_1) (wrap64 (x8_1 + 1)))) else (none)) else (none)) else (strakelaw01_CrcPieces.l0 kj6 l0 l1 t164 x6_1 x7_1 (wrap64 (x8_1 + 1)))) else (strakelaw01_CrcPieces.l0 kj6 l0 l1 t164 x6_1 x7_1 (wrap64 (x8_1 + 1)))) else (none)) else (none)) = some r := by rw [if_pos rfl] at H; exact H
              clear H
              have H := H1
              clear H1
              by_cases c10 : 0 ≤ x8_1
              · rw [if_pos c10] at H
                have c10b0 : decide (0 ≤ x8_1) = true := decide_eq_true c10
                clear c10
                by_cases c11 : x8_1 < (l1.length : Int)
                · rw [if_pos c11] at H
                  have c11b0 : decide (x8_1 < (l1.length : Int)) = true := decide_eq_true c11
                  clear c11
                  by_cases c12 : (rd l1 x8_1) ≥ x7_1
                  · rw [if_pos c12] at H
                    have c12b0 : decide (x7_1 ≤ (rd l1 x8_1)) = true := decide_eq_true c12
                    clear c12
                    by_cases c13 : (rd l1 x8_1) ≤ (l0.length : Int)
                    · rw [if_pos c13] at H
                      have c13b0 : decide ((rd l1 x8_1) ≤ (l0.length : Int)) = true := decide_eq_true c13
                      clear c13
                      by_cases c14 : 0 ≤ x7_1
                      · rw [if_pos c14] at H
                        have c14b0 := eq_true c14
                        have c14b1 : decide (0 ≤ x7_1) = true := decide_eq_true c14
                        clear c14
                        by_cases c15 : x7_1 ≤ (rd l1 x8_1)
                        · rw [if_pos c15] at H
                          have c15b0 := eq_true c15
                          have c15b1 : decide (x7_1 ≤ (rd l1 x8_1)) = true := decide_eq_true c15
                          clear c15
                          have c16b0 := eq_true (of_decide_eq_true (by first | (with_reducible assumption) | assumption) : (rd l1 x8_1) ≤ (l0.length : Int))
                          obtain ⟨y168, hy168⟩ : ∃ y_ : List Int, y_ = ((l0.take ((rd l1 x8_1) : Int).toNat).drop (x7_1 : Int).toNat) := ⟨_, rfl⟩
                          replace H : ((crc_Add.f kj6 x6_1 y168).bind fun t172 => (strakelaw01_CrcPieces.l0 kj6 l0 l1 t164 t172 (rd l1 x8_1) (wrap64 (x8_1 + 1)))) = some r := by first | (rw [hy168]; with_reducible exact H) | (have H2_ := (Option.bind_some _ _).symm.trans H; rw [hy168]; with_reducible exact H2_) | (have H2_ := (Option.bind_some _ _).symm.trans H; with_reducible exact H2_) | with_reducible exact H | (rw [hy168]; exact H) | exact H
                          have Ny168 := Aside0.mk hy168
                          clear hy168
                          replace H := Option.bind_eq_some_iff.mp H
                          obtain ⟨t172, A170, H⟩ := H
                          replace H : (strakelaw01_CrcPieces.l0 kj6 l0 l1 t164 t172 (rd l1 x8_1) (wrap64 (x8_1 + 1))) = some r := H
                          have A17 := Aside0.mk A170
                          clear A170
                          have H' := Aside0.mk H
                          clear H
                          have p165 : 0 ≤ (x8_1 : Int) := of_decide_eq_true (by first | (with_reducible assumption) | assumption)
                          have q165 : x8_1 < (l1.length : Int) := of_decide_eq_true (by first | (with_reducible assumption) | assumption)
                          obtain ⟨ad165, e165, hx165_0⟩ := Kd.at_int HR1.out x8_1 p165 q165
                          cases e165
                          replace hx165_0 := (HB.out.cell (World.block_lt_of_cell? w _ hx165_0)).trans hx165_0
                          replace p165 := eq_true p165
                          replace q165 := eq_true q165
                          have p166 : 0 ≤ (x8_1 : Int) := of_decide_eq_true (by first | (with_reducible assumption) | assumption)
                          have q166 : x8_1 < (l1.length : Int) := of_decide_eq_true (by first | (with_reducible assumption) | assumption)
                          obtain ⟨ad166, e166, hx166_0⟩ := Kd.at_int HR1.out x8_1 p166 q166
                          obtain rfl : ad165 = ad166 := (by injection e166)
                          replace hx166_0 := (HB.out.cell (World.block_lt_of_cell? w _ hx166_0)).trans hx166_0
                          replace p166 := eq_true p166
                          replace q166 := eq_true q166
                          have p167 : 0 ≤ (x8_1 : Int) := of_decide_eq_true (by first | (with_reducible assumption) | assumption)
                          have q167 : x8_1 < (l1.length : Int) := of_decide_eq_true (by first | (with_reducible assumption) | assumption)
                          obtain ⟨ad167, e167, hx167_0⟩ := Kd.at_int HR1.out x8_1 p167 q167
                          obtain rfl : ad165 = ad167 := (by injection e167)
                          replace hx167_0 := (HB.out.cell (World.block_lt_of_cell? w _ hx167_0)).trans hx167_0
                          replace p167 := eq_true p167
                          replace q167 := eq_true q167
                          have q18 : ((rd l1 x8_1) : Int) ≤ ((l0.length : Int) : Int) := of_decide_eq_true (by first | (with_reducible assumption) | assumption)
                          obtain ⟨i018, hi018, _, hsz18, _⟩ := info_parts info5
                          have hroom18 : l0.length ≤ c0 := HC0.out
                          have hC18 : Kd.C (Kd.int .u8) _ A0 l0.length l0 := HR0.out
                          have ql18 : (x7_1 : Int) ≤ ((rd l1 x8_1) : Int) := of_decide_eq_true (by first | (with_reducible assumption) | assumption)
                          have q018 : (0 : Int) ≤ (x7_1 : Int) := of_decide_eq_true (by first | (with_reducible assumption) | assumption)
                          have hcut18 := cut_mid (P := Try.prog) 22 5 .i64 .i64 Try.underlying22 hi018 1 hsz18 A0 l0.length c0 x7_1 (rd l1 x8_1) q018 ql18 q18 hroom18
                          have hr18 := Kd.C_mid (lo := (x7_1 : Int).toNat) (hi := ((rd l1 x8_1) : Int).toNat) (c := c0) hC18 (by omega) (by omega) hroom18
                          obtain ⟨A18, hA18⟩ : ∃ A1, A1 = (if c0 = (x7_1 : Int).toNat then A0 else (A0 : Option Addr).map (·.add ((x7_1 : Int).toNat * 1))) := ⟨_, rfl⟩
                          obtain ⟨c18, hc18⟩ : ∃ c1, c1 = c0 - (x7_1 : Int).toNat := ⟨_, rfl⟩
                          have hy18 : y168.length = ((rd l1 x8_1) : Int).toNat - (x7_1 : Int).toNat := (by rw [Ny168.out, List.length_drop, List.length_take] <;> omega)
                          rw [show ((l0).take ((rd l1 x8_1) : Int).toNat).drop (x7_1 : Int).toNat = y168 from Ny168.out.symm] at hr18
                          replace hr18 : Kd.C (Kd.int .u8) _ A18 y168.length y168 := (by rw [hA18]; exact hr18)
                          rw [← hy18, ← hA18, ← hc18] at hcut18
                          have HR171 := Aside0.mk hr18
                          have HC171 := Aside0.mk (show y168.length ≤ c18 from by rw [hy18, hc18]; exact Nat.sub_le_sub_right (Nat.le_trans (by omega) hroom18) _)
                          clear hr18 hC18 hroom18 hi018 hsz18 hc18
                          have KY18 := Aside0.mk hy18
                          have KA18 := Aside0.mk hA18
                          clear hy18 hA18
                          replace q18 := eq_true q18
                          go_wp2_with (first | ((with_reducible refine gate_callee (f := 13) rfl ?_); refine goesL_ (some 47) rfl rfl Try.func13 (by kernel_rfl) rfl #[.int .u32 x6_1, .slice A18 y168.length c18] rfl (by (try simp only [List.map_toArray, List.map_cons, List.map_nil]); first | done | rfl | (simp only [List.length_drop, List.length_take]; rfl)) ?_; (with_reducible refine (crc_Add.calls kj6 x6_1 _ _ y168 t172 _ ?side1 ?side2 A17.out).mono ?_); (case side1 => repeat (first | exact (Kd.C_below HR171.out HB.out) | (with_reducible refine Kd.C_alloc ?_ _) | (with_reducible refine Kd.C_drewN ?_ _) | (with_reducible refine Kd.C_drew ?_))); (case side2 => exact HC171.out); rintro e w' ⟨rfl, ⟨nd, rfl⟩⟩; refine ⟨_, rfl, ?_⟩; have p173 : 0 ≤ (x8_1 : Int) := of_decide_eq_true (by first | (with_reducible assumption) | assumption); have q173 : x8_1 < (l1.length : Int) := of_decide_eq_true (by first | (with_reducible assumption) | assumption); obtain ⟨ad173, e173, hx173_0⟩ := Kd.at_int HR1.out x8_1 p173 q173; obtain rfl : ad165 = ad173 := (by injection e173); replace hx173_0 := (HB.out.cell (World.block_lt_of_cell? w _ hx173_0)).trans hx173_0; replace p173 := eq_true p173; replace q173 := eq_true q173))
                          go_roundg kj6
                          case measure => have := HK1.out; have := HJ6.out; omega
                          case rel => exact ⟨(t172), (rd l1 x8_1), (wrap64 (x8_1 + 1)), (by first | rfl | (simp; done) | (simp [*]; done)), (by first | rfl | (simp; done) | (simp [*]; done)), (by first | rfl | (simp; done) | (simp [*]; done)), H', ⟨by have := HK1.out; have := HJ6.out; omega⟩, ⟨by repeat (first | (with_reducible first | exact HB.out | apply below_alloc | apply pw_below_drewN | apply below_drew1) | exact HB.out)⟩⟩
                        · rw [if_neg c15] at H
                          exact absurd H (by simp)
                      · rw [if_neg c14] at H
                        exact absurd H (by simp)
                    · rw [if_neg c13] at H
                      have c13b0 : decide ((rd l1 x8_1) ≤ (l0.length : Int)) = false := decide_eq_false c13
                      clear c13
                      have H' := Aside0.mk H
                      clear H
                      have p165 : 0 ≤ (x8_1 : Int) := of_decide_eq_true (by first | (with_reducible assumption) | assumption)
                      have q165 : x8_1 < (l1.length : Int) := of_decide_eq_true (by first | (with_reducible assumption) | assumption)
                      obtain ⟨ad165, e165, hx165_0⟩ := Kd.at_int HR1.out x8_1 p165 q165
                      cases e165
                      replace hx165_0 := (HB.out.cell (World.block_lt_of_cell? w _ hx165_0)).trans hx165_0
                      replace p165 := eq_true p165
                      replace q165 := eq_true q165
                      have p166 : 0 ≤ (x8_1 : Int) := of_decide_eq_true (by first | (with_reducible assumption) | assumption)
                      have q166 : x8_1 < (l1.length : Int) := of_decide_eq_true (by first | (with_reducible assumption) | assumption)
                      obtain ⟨ad166, e166, hx166_0⟩ := Kd.at_int HR1.out x8_1 p166 q166
                      obtain rfl : ad165 = ad166 := (by injection e166)
                      replace hx166_0 := (HB.out.cell (World.block_lt_of_cell? w _ hx166_0)).trans hx166_0
                      replace p166 := eq_true p166
                      replace q166 := eq_true q166
                      go_wp2
                      go_roundg kj6
                      case measure => have := HK1.out; have := HJ6.out; omega
                      case rel => exact ⟨(x6_1), (x7_1), (wrap64 (x8_1 + 1)), (by first | rfl | (simp; done) | (simp [*]; done)), (by first | rfl | (simp; done) | (simp [*]; done)), (by first | rfl | (simp; done) | (simp [*]; done)), H', ⟨by have := HK1.out; have := HJ6.out; omega⟩, ⟨by repeat (first | (with_reducible first | exact HB.out | apply below_alloc | apply pw_below_drewN | apply below_drew1) | exact HB.out)⟩⟩
                  · rw [if_neg c12] at H
                    have c12b0 : decide (x7_1 ≤ (rd l1 x8_1)) = false := decide_eq_false c12
                    clear c12
                    have H' := Aside0.mk H
                    clear H
                    have p165 : 0 ≤ (x8_1 : Int) := of_decide_eq_true (by first | (with_reducible assumption) | assumption)
                    have q165 : x8_1 < (l1.length : Int) := of_decide_eq_true (by first | (with_reducible assumption) | assumption)
                    obtain ⟨ad165, e165, hx165_0⟩ := Kd.at_int HR1.out x8_1 p165 q165
                    cases e165
                    replace hx165_0 := (HB.out.cell (World.block_lt_of_cell? w _ hx165_0)).trans hx165_0
                    replace p165 := eq_true p165
                    replace q165 := eq_true q165
                    go_wp2
                    go_roundg kj6
                    case measure => have := HK1.out; have := HJ6.out; omega
                    case rel => exact ⟨(x6_1), (x7_1), (wrap64 (x8_1 + 1)), (by first | rfl | (simp; done) | (simp [*]; done)), (by first | rfl | (simp; done) | (simp [*]; done)), (by first | rfl | (simp; done) | (simp [*]; done)), H', ⟨by have := HK1.out; have := HJ6.out; omega⟩, ⟨by repeat (first | (with_reducible first | exact HB.out | apply below_alloc | apply pw_below_drewN | apply below_drew1) | exact HB.out)⟩⟩
                · rw [if_neg c11] at H
                  exact absurd H (by simp)
              · rw [if_neg c10] at H
                exact absurd H (by simp)
            · replace c9 := Bool.eq_false_iff.mpr c9
              subst c9
              have H1 : (if t164 = true then (if 0 ≤ x7_1 then (if x7_1 ≤ (l0.length : Int) then ((crc_Add.f kj6 x6_1 (l0.drop (x7_1 : Int).toNat)).bind fun t178 => ((crc_Sum.f kj6 l0).bind fun t179 => (some (t178 == t179)))) else (none)) else (none)) else (some false)) = some r := by rw [if_neg (show ¬ (false = true) by decide)] at H; exact H
              clear H
              have H := H1
              clear H1
              by_cases c19 : t164 = true
              · subst c19
                have H1 : (if 0 ≤ x7_1 then (if x7_1 ≤ (l0.length : Int) then ((crc_Add.f kj6 x6_1 (l0.drop (x7_1 : Int).toNat)).bind fun t178 => ((crc_Sum.f kj6 l0).bind fun t179 => (some (t178 == t179)))) else (none)) else (none)) = some r := by rw [if_pos rfl] at H; exact H
                clear H
                have H := H1
                clear H1
                by_cases c20 : 0 ≤ x7_1
                · rw [if_pos c20] at H
                  have c20b0 := eq_true c20
                  have c20b1 : decide (0 ≤ x7_1) = true := decide_eq_true c20
                  clear c20
                  by_cases c21 : x7_1 ≤ (l0.length : Int)
                  · rw [if_pos c21] at H
                    have c21b0 := eq_true c21
                    have c21b1 : decide (x7_1 ≤ (l0.length : Int)) = true := decide_eq_true c21
                    clear c21
                    obtain ⟨y174, hy174⟩ : ∃ y_ : List Int, y_ = (l0.drop (x7_1 : Int).toNat) := ⟨_, rfl⟩
                    replace H : ((crc_Add.f kj6 x6_1 y174).bind fun t178 => ((crc_Sum.f kj6 l0).bind fun t179 => (some (t178 == t179)))) = some r := by first | (rw [hy174]; with_reducible exact H) | (have H2_ := (Option.bind_some _ _).symm.trans H; rw [hy174]; with_reducible exact H2_) | (have H2_ := (Option.bind_some _ _).symm.trans H; with_reducible exact H2_) | with_reducible exact H | (rw [hy174]; exact H) | exact H
                    have Ny174 := Aside0.mk hy174
                    clear hy174
                    replace H := Option.bind_eq_some_iff.mp H
                    obtain ⟨t178, A220, H⟩ := H
                    replace H : ((crc_Sum.f kj6 l0).bind fun t179 => (some (t178 == t179))) = some r := H
                    have A22 := Aside0.mk A220
                    clear A220
                    replace H := Option.bind_eq_some_iff.mp H
                    obtain ⟨t179, A230, H⟩ := H
                    replace H : (some (t178 == t179)) = some r := H
                    have A23 := Aside0.mk A230
                    clear A230
                    obtain rfl := Option.some.inj H
                    have q24 : (x7_1 : Int) ≤ ((l0.length : Int) : Int) := of_decide_eq_true (by first | (with_reducible assumption) | assumption)
                    obtain ⟨i024, hi024, _, hsz24, _⟩ := info_parts info5
                    have hroom24 : l0.length ≤ c0 := HC0.out
                    have hC24 : Kd.C (Kd.int .u8) _ A0 l0.length l0 := HR0.out
                    have q024 : (0 : Int) ≤ (x7_1 : Int) := of_decide_eq_true (by first | (with_reducible assumption) | assumption)
                    have hcut24 := cut_from (P := Try.prog) 22 5 .i64 Try.underlying22 hi024 1 hsz24 A0 l0.length c0 x7_1 q024 q24
                    have hr24 := Kd.C_drop (m := (x7_1 : Int).toNat) (c := c0) hC24 (by omega) hroom24
                    obtain ⟨A24, hA24⟩ : ∃ A1, A1 = (if c0 = (x7_1 : Int).toNat then A0 else (A0 : Option Addr).map (·.add ((x7_1 : Int).toNat * 1))) := ⟨_, rfl⟩
                    obtain ⟨c24, hc24⟩ : ∃ c1, c1 = c0 - (x7_1 : Int).toNat := ⟨_, rfl⟩
                    have hy24 : y174.length = l0.length - (x7_1 : Int).toNat := (by rw [Ny174.out, List.length_drop] <;> omega)
                    rw [show (l0).drop (x7_1 : Int).toNat = y174 from Ny174.out.symm] at hr24
                    replace hr24 : Kd.C (Kd.int .u8) _ A24 y174.length y174 := (by rw [hA24]; exact hr24)
                    rw [← hy24, ← hA24, ← hc24] at hcut24
                    have HR177 := Aside0.mk hr24
                    have HC177 := Aside0.mk (show y174.length ≤ c24 from by rw [hy24, hc24]; exact Nat.sub_le_sub_right hroom24 _)
                    clear hr24 hC24 hroom24 hi024 hsz24 hc24
                    have KY24 := Aside0.mk hy24
                    have KA24 := Aside0.mk hA24
                    clear hy24 hA24
                    replace q24 := eq_true q24
                    go_wp2_with (first | (go_at_call 13; (with_reducible refine (crc_Add.calls kj6 x6_1 _ _ y174 t178 _ ?side1 ?side2 A22.out).mono ?_); (case side1 => repeat (first | exact (Kd.C_below HR177.out HB.out) | (with_reducible refine Kd.C_alloc ?_ _) | (with_reducible refine Kd.C_drewN ?_ _) | (with_reducible refine Kd.C_drew ?_))); (case side2 => exact HC177.out); rintro e w' ⟨rfl, ⟨nd, rfl⟩⟩) | (go_at_call 11; (with_reducible refine (crc_Sum.calls kj6 _ _ l0 t179 _ ?side1 ?side2 A23.out).mono ?_); (case side1 => repeat (first | exact (Kd.C_below HR0.out (by repeat (first | (with_reducible first | exact HB.out | apply below_alloc | apply pw_below_drewN | apply below_drew1) | exact HB.out))) | (with_reducible refine Kd.C_alloc ?_ _) | (with_reducible refine Kd.C_drewN ?_ _) | (with_reducible refine Kd.C_drew ?_))); (case side2 => exact HC0.out); rintro e w' ⟨rfl, ⟨nd, rfl⟩⟩))
                    go_ret
                    exact ⟨by first | rfl | (simp [errW_none, errW_some] <;> rfl) | (simp [*, errW_none, errW_some] <;> rfl), by repeat (first | (with_reducible first | exact HB.out | apply below_alloc | apply pw_below_drewN | apply below_drew1) | exact HB.out)⟩
                  · rw [if_neg c21] at H
                    exact absurd H (by simp)
                · rw [if_neg c20] at H
                  exact absurd H (by simp)
              · replace c19 := Bool.eq_false_iff.mpr c19
                subst c19
                have H1 : (some false) = some r := by rw [if_neg (show ¬ (false = true) by decide)] at H; exact H
                clear H
                have H := H1
                clear H1
                obtain rfl := Option.some.inj H
                go_wp2
                go_ret
                exact ⟨by first | rfl | (simp [errW_none, errW_some] <;> rfl) | (simp [*, errW_none, errW_some] <;> rfl), by repeat (first | (with_reducible first | exact HB.out | apply below_alloc | apply pw_below_drewN | apply below_drew1) | exact HB.out)⟩

/-- THE ONE PURE STATEMENT of strakelaw01_CrcPieces: yours. -/
def strakelaw01_CrcPieces.Pure : Prop := ∀ (l0 : List Int) (l1 : List Int), l0.length ≤ maxLen → l0.length * 1 ≤ 140737488351232 → (∀ x ∈ l0, (Lit.int .u8 x).wf = true) → l1.length ≤ maxLen → l1.length * 8 ≤ 140737488351232 → (∀ x ∈ l1, (Lit.int .i64 x).wf = true) → ∃ k, strakelaw01_CrcPieces.f k l0 l1 = some true
theorem strakelaw01_CrcPieces.walk (P : strakelaw01_CrcPieces.Pure) (a0 : Option Addr) (len0 cap0 : Nat) (z0 : List Int) (a1 : Option Addr) (len1 cap1 : Nat) (z1 : List Int) (w : World) (w0 : (a0 = none ∧ len0 = 0 ∧ cap0 = 0 ∧ z0 = []) ∨ ∃ x, a0 = some x ∧ len0 ≤ cap0 ∧ cap0 ≤ maxLen ∧ z0.length = cap0 ∧ (∀ i, i < z0.length → w.cell? (x.add i) = some (.int .u8 (z0.getD i 0))) ∧ ∀ n ∈ z0, (Lit.int .u8 n).wf = true) (y0 : len0 * 1 ≤ 140737488351232) (w1 : (a1 = none ∧ len1 = 0 ∧ cap1 = 0 ∧ z1 = []) ∨ ∃ x, a1 = some x ∧ len1 ≤ cap1 ∧ cap1 ≤ maxLen ∧ z1.length = cap1 ∧ (∀ i, i < z1.length → w.cell? (x.add i) = some (.int .i64 (z1.getD i 0))) ∧ ∀ n ∈ z1, (Lit.int .i64 n).wf = true) (y1 : len1 * 8 ≤ 140737488351232) :
    Calls Try.prog 8 #[.slice a0 len0 cap0, .slice a1 len1 cap1] w fun e w' => e = .returned (.bool true) ∧ Below w.heap.size w w' := by
  obtain ⟨l0, rfl, hr0, hm0, hw0, hc0⟩ := ReadsInt.ofRowC w0
  obtain ⟨l1, rfl, hr1, hm1, hw1, hc1⟩ := ReadsInt.ofRowC w1
  obtain ⟨k, h⟩ := P l0 l1 hm0 y0 hw0 hm1 y1 hw1
  refine (strakelaw01_CrcPieces.calls k _ _ l0 _ _ l1 true w (Kd.C_of_reads (d := (0 : Int)) (h1 := fun _ => rfl) hr0) hc0 (Kd.C_of_reads (d := (0 : Int)) (h1 := fun _ => rfl) hr1) hc1 h).mono ?_
  rintro e w' ⟨rfl, hd⟩
  exact ⟨rfl, hd⟩

-- NOT PRINTED: function 9 (strakelaw01_CrcApart)

end Go.Proofs.Ytlciniiiijfbmaa.X
