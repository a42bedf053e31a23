-- laid by wip/tools/xprint.py (our own changes over the printer)
import Derived.Test.YtjjohdeknahkmaaX0
import Derived.Test.YtjjohdeknahkmaaX3
import Derived.Test.YtjjohdeknahkmaaX4
import Derived.Test.YtjjohdeknahkmaaX31
namespace Go.Proofs.Ytjjohdeknahkmaa.X
open Go.RowKit Go.Proofs.YtjjohdeknahkmaaW.PrintWords Go.Proofs.YtjjohdeknahkmaaW.PrintLast Go.Proofs.YtjjohdeknahkmaaW.PrintMore
attribute [local go_sem] max2_int min2_int max_two min_two max_three min_three max_four min_four   -- for this text's walks alone
set_option linter.unusedVariables false
set_option linter.unusedSimpArgs false

/-! ### mark_Read: function 28 -/
def mark_Read.j0 : Nat → List Int → Bool → Option (Int × Int × Int × Int)
  | 0, _, _ => none
  | k + 1, x0, x25 => if x25 = true then (some (0, 0, 0, 3)) else (if 4 ≤ (x0.length : Int) then ((wire_TakeFixed.f (x0.drop 4)).bind fun bt308 => (if 8 ≤ (x0.length : Int) then ((wire_TakeFixed.f (x0.drop 8)).bind fun bt314 => (if 12 ≤ (x0.length : Int) then ((wire_TakeFixed.f (x0.drop 12)).bind fun bt320 => (if bt320.1 > 262144 then (some (0, 0, 0, 3)) else (if 2 < (x0.length : Int) then ((mark_Right.f (wrap64 (rd x0 2)) (wrap64 (bt308.1)) (Go.bits .or .i64 (wrap64 ((wrap64 (bt320.1)) * 4294967296)) (wrap64 (bt314.1)))).bind fun t324 => (if t324 = true then (if 3 < (x0.length : Int) then ((mark_letter.f (wrap64 (bt308.1))).bind fun t326 => (if (rd x0 3) = t326 then (some (wrap64 (rd x0 2), wrap64 (bt308.1), Go.bits .or .i64 (wrap64 ((wrap64 (bt320.1)) * 4294967296)) (wrap64 (bt314.1)), 0)) else (some (0, 0, 0, 3)))) else (none)) else (some (0, 0, 0, 3)))) else (none)))) else (none))) else (none))) else (none))
def mark_Read.f (k : Nat) (l0 : List Int) : Option (Int × Int × Int × Int) := if (l0.length : Int) = 16 then (if 0 < (l0.length : Int) then (if (rd l0 0) = 72 then (if 1 < (l0.length : Int) then (mark_Read.j0 k l0 ((rd l0 1) != 76)) else (none)) else (mark_Read.j0 k l0 true)) else (none)) else (mark_Read.j0 k l0 true)
theorem mark_Read.mono_l : ∀ k, (∀ y0 y1, LeO (mark_Read.j0 k y0 y1) (mark_Read.j0 (k + 1) y0 y1))
  | 0 => fun _ _ r h => by simp [mark_Read.j0] at h
  | k + 1 => by
    have ih0 := mark_Read.mono_l k
    · intro y0 y1
      unfold mark_Read.j0
      repeat' first
      | (with_reducible exact ih0 _ _)
      | (with_reducible exact LeO.refl _)
      | (with_reducible exact LeO.none _)
      | (with_reducible refine LeO.ite ?_ ?_)
      | (with_reducible refine LeO.bind ?_ (fun _ => ?_))
      | exact ih0 _ _
      | exact LeO.none _
      | refine LeO.ite ?_ ?_
      | refine LeO.bind ?_ (fun _ => ?_)
theorem mark_Read.mono : ∀ a0 k, LeO (mark_Read.f k a0) (mark_Read.f (k + 1) a0) := by
  intro a0 k
  have ih0 := mark_Read.mono_l k
  unfold mark_Read.f
  repeat' first
      | (with_reducible exact ih0 _ _)
      | (with_reducible exact LeO.refl _)
      | (with_reducible exact LeO.none _)
      | (with_reducible refine LeO.ite ?_ ?_)
      | (with_reducible refine LeO.bind ?_ (fun _ => ?_))
      | exact ih0 _ _
      | exact LeO.none _
      | refine LeO.ite ?_ ?_
      | refine LeO.bind ?_ (fun _ => ?_)
def mark_Read.T9 : Bool × List (List Nat × List Nat) := (true, [([], []), ([0], [0]), ([1], [1]), ([2, 1], [2]), ([3], [3]), ([4, 3], [3, 4]), ([5, 3], [3, 5]), ([3], [3]), ([7, 3], [3, 7]), ([8, 3, 3], [3, 8]), ([6, 9, 3], [3, 6, 9]), ([3, 10], [3, 10])])
def mark_Read.B9 : List Nat := [0, 1, 3, 7, 15, 31, 63, 15, 143, 399, 1023, 2047]
theorem mark_Read.tab9 : rtab .any (opsOf Try.f28 9) = mark_Read.T9 := by kernel_rfl
theorem mark_Read.bits9 : waitsOk mark_Read.T9.2 mark_Read.B9 = true := by kernel_rfl
set_option maxHeartbeats 8000000 in
set_option maxRecDepth 100000 in
theorem mark_Read.calls (k : Nat) (A0 : Option Addr) (c0 : Nat) (l0 : List Int) (r1 : Int) (r2 : Int) (r3 : Int) (r4 : Int) (w : World) (hr0 : Kd.C (Kd.int .u8) w A0 l0.length l0) (hc0 : l0.length ≤ c0) (h : mark_Read.f k l0 = some (r1, r2, r3, r4)) :
    Calls Try.prog 28 #[.slice A0 l0.length c0] w fun e w' => e = .returned (.tuple #[.agg #[.int .i64 r1, .int .i64 r2, .int .i64 r3], .int .i64 r4]) ∧ Below w.heap.size w w' := by
  have hu23 := Try.underlying23
  have HR0 := Aside0.mk hr0
  have HC0 := Aside0.mk hc0
  clear hr0 hc0
  have HB := Aside0.mk (Below.refl w.heap.size w)
  have H : (if (l0.length : Int) = 16 then (if 0 < (l0.length : Int) then (if (rd l0 0) = 72 then (if 1 < (l0.length : Int) then (mark_Read.j0 k l0 ((rd l0 1) != 76)) else (none)) else (mark_Read.j0 k l0 true)) else (none)) else (mark_Read.j0 k l0 true)) = some (r1, r2, r3, r4) := h
  clear h
  have HC2 := Aside0.mk H
  clear H
  go_enter Try.func28, Try.ntmps28
  go_upto_region 1 with (first | ((with_reducible refine gate_dst (N := 2) rfl ?_); refine box_event ?hg (N := 2) ?hd (cs := #[.int .i64 0, .int .i64 0, .int .i64 0]) (t := 23) ?hr ?_; (case hd => rfl); (case hg => rfl); (case hr => first | (go_simp; done) | (go_simp; rfl)); intro gb301 hg w3 hbox hb; have n0_ := Aside0.mk (below_step (by repeat (first | (with_reducible first | exact HB.out | apply below_alloc | apply pw_below_drewN | apply below_drew1) | exact HB.out)) hb); have n1_ := Aside0.mk (hbox); have n2_ := Aside0.mk ((by rw [hg]; exact (below_size (by repeat (first | (with_reducible first | exact HB.out | apply below_alloc | apply pw_below_drewN | apply below_drew1) | exact HB.out))) : w.heap.size ≤ gb301)); have n3_ := Aside0.mk ((by rw [hg]; exact (below_size (by repeat (first | (with_reducible first | exact HB.out | apply below_alloc | apply pw_below_drewN | apply below_drew1) | exact HB.out))) : w.heap.size ≤ gb301)); clear HB; have HB := n0_; have BK301 := n1_; have GW301 := n2_; have GE301 := n3_; clear n0_ n1_ n2_ n3_; clear hb hbox hg))
  (try simp only [Act.put, List.setIfInBounds_toArray, List.set_cons_zero, List.set_cons_succ])
  go_cut [25] (fun v25 wc => ∃ (kq : Nat) (x25_1 : Bool), v25 = .bool x25_1 ∧ Aside0 (mark_Read.j0 kq l0 x25_1 = some (r1, r2, r3, r4)) ∧ Aside0 (kq ≤ k) ∧ Aside0 (wc.heap[gb301]? = some (.cells #[.int .i64 0, .int .i64 0, .int .i64 0] 23 (0, 0))) ∧ Aside0 (Below w.heap.size w wc))
  case first =>
    have H := HC2.out
    clear HC2
    by_cases c4 : (l0.length : Int) = 16
    · rw [if_pos c4] at H
      have c4b0 : ((l0.length : Int) == 16) = true := beq_iff_eq.mpr c4
      have c4b1 : ((l0.length : Int) != 16) = false := bne_eq_false_iff_eq.mpr c4
      clear c4
      (first | rw [c4b0] | (simp only [i64_w, i32_w]; rw [c4b0]) | skip)
      by_cases c5 : 0 < (l0.length : Int)
      · rw [if_pos c5] at H
        have c5b0 : decide (0 < (l0.length : Int)) = true := decide_eq_true c5
        have c5b1 : decide (0 < l0.length) = true := decide_eq_true (by omega)
        clear c5
        by_cases c6 : (rd l0 0) = 72
        · rw [if_pos c6] at H
          have c6b0 : ((rd l0 0) == 72) = true := beq_iff_eq.mpr c6
          have c6b1 : ((rd l0 0) != 72) = false := bne_eq_false_iff_eq.mpr c6
          clear c6
          by_cases c7 : 1 < (l0.length : Int)
          · rw [if_pos c7] at H
            have c7b0 : decide (1 < (l0.length : Int)) = true := decide_eq_true c7
            have c7b1 : decide (1 < l0.length) = true := decide_eq_true (by omega)
            clear c7
            have H' := Aside0.mk H
            clear H
            have p302 : 0 ≤ (0 : Int) := (by omega)
            have q302 : 0 < (l0.length : Int) := of_decide_eq_true (by first | (with_reducible assumption) | assumption)
            obtain ⟨ad302, e302, hx302_0⟩ := Kd.at_int HR0.out 0 p302 q302
            cases e302
            have qi302 : (0 < l0.length) = True := eq_true (by omega)
            (try rw [show ((0 : Int)).toNat = 0 from rfl] at hx302_0)
            (try rw [Addr.add_zero'] at hx302_0)
            replace hx302_0 := (HB.out.cell (World.block_lt_of_cell? w _ hx302_0)).trans hx302_0
            replace p302 := eq_true p302
            replace q302 := eq_true q302
            have p303 : 0 ≤ (1 : Int) := (by omega)
            have q303 : 1 < (l0.length : Int) := of_decide_eq_true (by first | (with_reducible assumption) | assumption)
            obtain ⟨ad303, e303, hx303_0⟩ := Kd.at_int HR0.out 1 p303 q303
            obtain rfl : ad302 = ad303 := (by injection e303)
            (try simp only [show (1 : Int).toNat = 1 from rfl, Nat.reduceMul, Nat.reduceEqDiff, Go.Addr.add, ↓reduceIte] at hx303_0)
            have qi303 : (1 < l0.length) = True := eq_true (by omega)
            (try rw [show ((1 : Int)).toNat = 1 from rfl] at hx303_0)
            replace hx303_0 := (HB.out.cell (World.block_lt_of_cell? w _ hx303_0)).trans hx303_0
            replace p303 := eq_true p303
            replace q303 := eq_true q303
            go_wp2
            go_meet
            case rel => exact ⟨_, (((rd l0 1) != 76)), (by first | rfl | (simp; done) | (simp [*]; done)), H', ⟨by first | omega | exact Nat.le_refl _⟩, ⟨by (with_reducible repeat (first | refine blk_drewN ?_ _ | refine blk_drew ?_ | refine blk_alloc ?_ _)); exact BK301.out⟩, ⟨by repeat (first | (with_reducible first | exact HB.out | apply below_alloc | apply pw_below_drewN | apply below_drew1 | refine below_set ?_ GE301.out) | exact HB.out)⟩⟩
          · rw [if_neg c7] at H
            exact absurd H (by simp)
        · rw [if_neg c6] at H
          have c6b0 : ((rd l0 0) == 72) = false := beq_eq_false_iff_ne.mpr c6
          have c6b1 : ((rd l0 0) != 72) = true := bne_iff_ne.mpr c6
          have H' := Aside0.mk H
          clear H
          have p302 : 0 ≤ (0 : Int) := (by omega)
          have q302 : 0 < (l0.length : Int) := of_decide_eq_true (by first | (with_reducible assumption) | assumption)
          obtain ⟨ad302, e302, hx302_0⟩ := Kd.at_int HR0.out 0 p302 q302
          cases e302
          have qi302 : (0 < l0.length) = True := eq_true (by omega)
          (try rw [show ((0 : Int)).toNat = 0 from rfl] at hx302_0)
          (try rw [Addr.add_zero'] at hx302_0)
          replace hx302_0 := (HB.out.cell (World.block_lt_of_cell? w _ hx302_0)).trans hx302_0
          replace p302 := eq_true p302
          replace q302 := eq_true q302
          go_wp2
          go_meet
          case rel => exact ⟨_, (true), (by first | rfl | (simp; done) | (simp [*]; done)), H', ⟨by first | omega | exact Nat.le_refl _⟩, ⟨by (with_reducible repeat (first | refine blk_drewN ?_ _ | refine blk_drew ?_ | refine blk_alloc ?_ _)); exact BK301.out⟩, ⟨by repeat (first | (with_reducible first | exact HB.out | apply below_alloc | apply pw_below_drewN | apply below_drew1 | refine below_set ?_ GE301.out) | exact HB.out)⟩⟩
      · rw [if_neg c5] at H
        exact absurd H (by simp)
    · rw [if_neg c4] at H
      have c4b0 : ((l0.length : Int) == 16) = false := beq_eq_false_iff_ne.mpr c4
      have c4b1 : ((l0.length : Int) != 16) = true := bne_iff_ne.mpr c4
      (first | rw [c4b0] | (simp only [i64_w, i32_w]; rw [c4b0]) | skip)
      have H' := Aside0.mk H
      clear H
      go_wp2
      go_meet
      case rel => exact ⟨_, (true), (by first | rfl | (simp; done) | (simp [*]; done)), H', ⟨by first | omega | exact Nat.le_refl _⟩, ⟨by (with_reducible repeat (first | refine blk_drewN ?_ _ | refine blk_drew ?_ | refine blk_alloc ?_ _)); exact BK301.out⟩, ⟨by repeat (first | (with_reducible first | exact HB.out | apply below_alloc | apply pw_below_drewN | apply below_drew1 | refine below_set ?_ GE301.out) | exact HB.out)⟩⟩
  case rest =>
    clear HC2
    try clear c2
    try clear p2
    try clear p3
    try clear q3
    try clear hx3
    try clear qi3
    try clear c4
    try clear c4b0
    try clear c4b1
    try clear c5
    try clear c5b0
    try clear c5b1
    try clear c6
    try clear c6b0
    try clear c6b1
    try clear c7
    try clear c7b0
    try clear c7b1
    try clear hx302_0
    try clear hx303_0
    try clear p302
    try clear p303
    try clear q302
    try clear q303
    obtain ⟨kq, x25_1, rfl, HA, HJ1, BK301, HB⟩ := hcut
    cases kq with
    | zero => exact absurd HA.out (by simp [mark_Read.j0])
    | succ kj1 =>
      have H := HA.out
      clear HA
      simp only [mark_Read.j0] at H
      by_cases c8 : x25_1 = true
      · subst c8
        have H1 : (some (0, 0, 0, 3)) = some (r1, r2, r3, r4) := by rw [if_pos rfl] at H; exact H
        clear H
        have H := H1
        clear H1
        simp only [Option.some.injEq, Prod.mk.injEq] at H
        obtain ⟨rfl, rfl, rfl, rfl⟩ := H
        have hcz9_0 : wc.cell? ⟨gb301, 0, none⟩ = some (.int .i64 0) := (blk_cell BK301.out 0).trans rfl
        have hcz9_1 : wc.cell? ⟨gb301, 1, none⟩ = some (.int .i64 0) := (blk_cell BK301.out 1).trans rfl
        have hcz9_2 : wc.cell? ⟨gb301, 2, none⟩ = some (.int .i64 0) := (blk_cell BK301.out 2).trans rfl
        have hfz9_0 := blk_frozen BK301.out 0
        have hfz9_1 := blk_frozen BK301.out 1
        have hfz9_2 := blk_frozen BK301.out 2
        go_wp2
        refine bodyPost_ret (results_ct rfl _ _ gb301 23 #[.int .i64 0, .int .i64 0, .int .i64 0] (0, 0) _ rfl (by (with_reducible repeat (first | refine blk_drewN ?_ _ | refine blk_drew ?_ | refine blk_alloc ?_ _)); refine blk_put (cs := #[.int .i64 0, .int .i64 0, .int .i64 0]) ?_ 2 _ rfl; (with_reducible repeat (first | refine blk_drewN ?_ _ | refine blk_drew ?_ | refine blk_alloc ?_ _)); refine blk_put (cs := #[.int .i64 0, .int .i64 0, .int .i64 0]) ?_ 1 _ rfl; (with_reducible repeat (first | refine blk_drewN ?_ _ | refine blk_drew ?_ | refine blk_alloc ?_ _)); refine blk_put (cs := #[.int .i64 0, .int .i64 0, .int .i64 0]) ?_ 0 _ rfl; (with_reducible repeat (first | refine blk_drewN ?_ _ | refine blk_drew ?_ | refine blk_alloc ?_ _)); exact BK301.out) Try.underlying23 rfl (by kernel_rfl)) rfl ?_
        exact ⟨by first | rfl | (simp [errW_none, errW_some] <;> rfl) | (simp [*, errW_none, errW_some] <;> rfl), by repeat (first | (with_reducible first | exact HB.out | apply below_alloc | apply pw_below_drewN | apply below_drew1 | refine below_set ?_ GE301.out) | exact HB.out)⟩
      · replace c8 := Bool.eq_false_iff.mpr c8
        subst c8
        have H1 : (if 4 ≤ (l0.length : Int) then ((wire_TakeFixed.f (l0.drop 4)).bind fun bt308 => (if 8 ≤ (l0.length : Int) then ((wire_TakeFixed.f (l0.drop 8)).bind fun bt314 => (if 12 ≤ (l0.length : Int) then ((wire_TakeFixed.f (l0.drop 12)).bind fun bt320 => (if bt320.1 > 262144 then (some (0, 0, 0, 3)) else (if 2 < (l0.length : Int) then ((mark_Right.f (wrap64 (rd l0 2)) (wrap64 (bt308.1)) (Go.bits .or .i64 (wrap64 ((wrap64 (bt320.1)) * 4294967296)) (wrap64 (bt314.1)))).bind fun t324 => (if t324 = true then (if 3 < (l0.length : Int) then ((mark_letter.f (wrap64 (bt308.1))).bind fun t326 => (if (rd l0 3) = t326 then (some (wrap64 (rd l0 2), wrap64 (bt308.1), Go.bits .or .i64 (wrap64 ((wrap64 (bt320.1)) * 4294967296)) (wrap64 (bt314.1)), 0)) else (some (0, 0, 0, 3)))) else (none)) else (some (0, 0, 0, 3)))) else (none)))) else (none))) else (none))) else (none)) = some (r1, r2, r3, r4) := by rw [if_neg (show ¬ (false = true) by decide)] at H; exact H
        clear H
        have H := H1
        clear H1
        by_cases c10 : 4 ≤ (l0.length : Int)
        · rw [if_pos c10] at H
          have c10b0 := eq_true c10
          have c10b1 : decide (4 ≤ (l0.length : Int)) = true := decide_eq_true c10
          clear c10
          obtain ⟨y304, hy304⟩ : ∃ y_ : List Int, y_ = (l0.drop 4) := ⟨_, rfl⟩
          replace H : ((wire_TakeFixed.f y304).bind fun bt308 => (if 8 ≤ (l0.length : Int) then ((wire_TakeFixed.f (l0.drop 8)).bind fun bt314 => (if 12 ≤ (l0.length : Int) then ((wire_TakeFixed.f (l0.drop 12)).bind fun bt320 => (if bt320.1 > 262144 then (some (0, 0, 0, 3)) else (if 2 < (l0.length : Int) then ((mark_Right.f (wrap64 (rd l0 2)) (wrap64 (bt308.1)) (Go.bits .or .i64 (wrap64 ((wrap64 (bt320.1)) * 4294967296)) (wrap64 (bt314.1)))).bind fun t324 => (if t324 = true then (if 3 < (l0.length : Int) then ((mark_letter.f (wrap64 (bt308.1))).bind fun t326 => (if (rd l0 3) = t326 then (some (wrap64 (rd l0 2), wrap64 (bt308.1), Go.bits .or .i64 (wrap64 ((wrap64 (bt320.1)) * 4294967296)) (wrap64 (bt314.1)), 0)) else (some (0, 0, 0, 3)))) else (none)) else (some (0, 0, 0, 3)))) else (none)))) else (none))) else (none))) = some (r1, r2, r3, r4) := by first | (rw [hy304]; with_reducible exact H) | (have H2_ := (Option.bind_some _ _).symm.trans H; rw [hy304]; with_reducible exact H2_) | (have H2_ := (Option.bind_some _ _).symm.trans H; with_reducible exact H2_) | with_reducible exact H | (rw [hy304]; exact H) | exact H
          have Ny304 := Aside0.mk hy304
          clear hy304
          replace H := Option.bind_eq_some_iff.mp H
          obtain ⟨⟨t308, t309⟩, A110, H⟩ := H
          replace H : (if 8 ≤ (l0.length : Int) then ((wire_TakeFixed.f (l0.drop 8)).bind fun bt314 => (if 12 ≤ (l0.length : Int) then ((wire_TakeFixed.f (l0.drop 12)).bind fun bt320 => (if bt320.1 > 262144 then (some (0, 0, 0, 3)) else (if 2 < (l0.length : Int) then ((mark_Right.f (wrap64 (rd l0 2)) (wrap64 (t308)) (Go.bits .or .i64 (wrap64 ((wrap64 (bt320.1)) * 4294967296)) (wrap64 (bt314.1)))).bind fun t324 => (if t324 = true then (if 3 < (l0.length : Int) then ((mark_letter.f (wrap64 (t308))).bind fun t326 => (if (rd l0 3) = t326 then (some (wrap64 (rd l0 2), wrap64 (t308), Go.bits .or .i64 (wrap64 ((wrap64 (bt320.1)) * 4294967296)) (wrap64 (bt314.1)), 0)) else (some (0, 0, 0, 3)))) else (none)) else (some (0, 0, 0, 3)))) else (none)))) else (none))) else (none)) = some (r1, r2, r3, r4) := H
          have A11 := Aside0.mk A110
          clear A110
          by_cases c12 : 8 ≤ (l0.length : Int)
          · rw [if_pos c12] at H
            have c12b0 := eq_true c12
            have c12b1 : decide (8 ≤ (l0.length : Int)) = true := decide_eq_true c12
            clear c12
            obtain ⟨y310, hy310⟩ : ∃ y_ : List Int, y_ = (l0.drop 8) := ⟨_, rfl⟩
            replace H : ((wire_TakeFixed.f y310).bind fun bt314 => (if 12 ≤ (l0.length : Int) then ((wire_TakeFixed.f (l0.drop 12)).bind fun bt320 => (if bt320.1 > 262144 then (some (0, 0, 0, 3)) else (if 2 < (l0.length : Int) then ((mark_Right.f (wrap64 (rd l0 2)) (wrap64 (t308)) (Go.bits .or .i64 (wrap64 ((wrap64 (bt320.1)) * 4294967296)) (wrap64 (bt314.1)))).bind fun t324 => (if t324 = true then (if 3 < (l0.length : Int) then ((mark_letter.f (wrap64 (t308))).bind fun t326 => (if (rd l0 3) = t326 then (some (wrap64 (rd l0 2), wrap64 (t308), Go.bits .or .i64 (wrap64 ((wrap64 (bt320.1)) * 4294967296)) (wrap64 (bt314.1)), 0)) else (some (0, 0, 0, 3)))) else (none)) else (some (0, 0, 0, 3)))) else (none)))) else (none))) = some (r1, r2, r3, r4) := by first | (rw [hy310]; with_reducible exact H) | (have H2_ := (Option.bind_some _ _).symm.trans H; rw [hy310]; with_reducible exact H2_) | (have H2_ := (Option.bind_some _ _).symm.trans H; with_reducible exact H2_) | with_reducible exact H | (rw [hy310]; exact H) | exact H
            have Ny310 := Aside0.mk hy310
            clear hy310
            replace H := Option.bind_eq_some_iff.mp H
            obtain ⟨⟨t314, t315⟩, A130, H⟩ := H
            replace H : (if 12 ≤ (l0.length : Int) then ((wire_TakeFixed.f (l0.drop 12)).bind fun bt320 => (if bt320.1 > 262144 then (some (0, 0, 0, 3)) else (if 2 < (l0.length : Int) then ((mark_Right.f (wrap64 (rd l0 2)) (wrap64 (t308)) (Go.bits .or .i64 (wrap64 ((wrap64 (bt320.1)) * 4294967296)) (wrap64 (t314)))).bind fun t324 => (if t324 = true then (if 3 < (l0.length : Int) then ((mark_letter.f (wrap64 (t308))).bind fun t326 => (if (rd l0 3) = t326 then (some (wrap64 (rd l0 2), wrap64 (t308), Go.bits .or .i64 (wrap64 ((wrap64 (bt320.1)) * 4294967296)) (wrap64 (t314)), 0)) else (some (0, 0, 0, 3)))) else (none)) else (some (0, 0, 0, 3)))) else (none)))) else (none)) = some (r1, r2, r3, r4) := H
            have A13 := Aside0.mk A130
            clear A130
            by_cases c14 : 12 ≤ (l0.length : Int)
            · rw [if_pos c14] at H
              have c14b0 := eq_true c14
              have c14b1 : decide (12 ≤ (l0.length : Int)) = true := decide_eq_true c14
              clear c14
              obtain ⟨y316, hy316⟩ : ∃ y_ : List Int, y_ = (l0.drop 12) := ⟨_, rfl⟩
              replace H : ((wire_TakeFixed.f y316).bind fun bt320 => (if bt320.1 > 262144 then (some (0, 0, 0, 3)) else (if 2 < (l0.length : Int) then ((mark_Right.f (wrap64 (rd l0 2)) (wrap64 (t308)) (Go.bits .or .i64 (wrap64 ((wrap64 (bt320.1)) * 4294967296)) (wrap64 (t314)))).bind fun t324 => (if t324 = true then (if 3 < (l0.length : Int) then ((mark_letter.f (wrap64 (t308))).bind fun t326 => (if (rd l0 3) = t326 then (some (wrap64 (rd l0 2), wrap64 (t308), Go.bits .or .i64 (wrap64 ((wrap64 (bt320.1)) * 4294967296)) (wrap64 (t314)), 0)) else (some (0, 0, 0, 3)))) else (none)) else (some (0, 0, 0, 3)))) else (none)))) = some (r1, r2, r3, r4) := by first | (rw [hy316]; with_reducible exact H) | (have H2_ := (Option.bind_some _ _).symm.trans H; rw [hy316]; with_reducible exact H2_) | (have H2_ := (Option.bind_some _ _).symm.trans H; with_reducible exact H2_) | with_reducible exact H | (rw [hy316]; exact H) | exact H
              have Ny316 := Aside0.mk hy316
              clear hy316
              replace H := Option.bind_eq_some_iff.mp H
              obtain ⟨⟨t320, t321⟩, A150, H⟩ := H
              replace H : (if t320 > 262144 then (some (0, 0, 0, 3)) else (if 2 < (l0.length : Int) then ((mark_Right.f (wrap64 (rd l0 2)) (wrap64 (t308)) (Go.bits .or .i64 (wrap64 ((wrap64 (t320)) * 4294967296)) (wrap64 (t314)))).bind fun t324 => (if t324 = true then (if 3 < (l0.length : Int) then ((mark_letter.f (wrap64 (t308))).bind fun t326 => (if (rd l0 3) = t326 then (some (wrap64 (rd l0 2), wrap64 (t308), Go.bits .or .i64 (wrap64 ((wrap64 (t320)) * 4294967296)) (wrap64 (t314)), 0)) else (some (0, 0, 0, 3)))) else (none)) else (some (0, 0, 0, 3)))) else (none))) = some (r1, r2, r3, r4) := H
              have A15 := Aside0.mk A150
              clear A150
              by_cases c16 : t320 > 262144
              · rw [if_pos c16] at H
                have c16b0 : decide (262144 < t320) = true := decide_eq_true c16
                clear c16
                simp only [Option.some.injEq, Prod.mk.injEq] at H
                obtain ⟨rfl, rfl, rfl, rfl⟩ := H
                have q17 : (4 : Int) ≤ ((l0.length : Int) : Int) := of_decide_eq_true (by first | (with_reducible assumption) | assumption)
                obtain ⟨i017, hi017, _, hsz17, _⟩ := info_parts info5
                have hroom17 : l0.length ≤ c0 := HC0.out
                have hC17 : Kd.C (Kd.int .u8) _ A0 l0.length l0 := HR0.out
                have hcut17 := cut_from (P := Try.prog) 25 5 .i64 Try.underlying25 hi017 1 hsz17 A0 l0.length c0 4 (by omega) q17
                have hr17 := Kd.C_drop (m := (4 : Int).toNat) (c := c0) hC17 (by omega) hroom17
                obtain ⟨A17, hA17⟩ : ∃ A1, A1 = (if c0 = (4 : Int).toNat then A0 else (A0 : Option Addr).map (·.add ((4 : Int).toNat * 1))) := ⟨_, rfl⟩
                obtain ⟨c17, hc17⟩ : ∃ c1, c1 = c0 - (4 : Int).toNat := ⟨_, rfl⟩
                have hy17 : y304.length = l0.length - (4 : Int).toNat := (by rw [Ny304.out, List.length_drop] <;> omega)
                rw [show (l0).drop (4 : Int).toNat = y304 from Ny304.out.symm] at hr17
                replace hr17 : Kd.C (Kd.int .u8) _ A17 y304.length y304 := (by rw [hA17]; exact hr17)
                rw [← hy17, ← hA17, ← hc17] at hcut17
                have HR307 := Aside0.mk hr17
                have HC307 := Aside0.mk (show y304.length ≤ c17 from by rw [hy17, hc17]; exact Nat.sub_le_sub_right hroom17 _)
                clear hr17 hC17 hroom17 hi017 hsz17 hc17
                have KY17 := Aside0.mk hy17
                have KA17 := Aside0.mk hA17
                clear hy17 hA17
                replace q17 := eq_true q17
                go_wp2_with (first | ((with_reducible refine gate_callee (f := 40) rfl ?_); refine goesL_ (some 30) rfl rfl Try.func40 (by kernel_rfl) rfl #[.slice A17 y304.length c17] rfl (by (try simp only [List.map_toArray, List.map_cons, List.map_nil]); first | done | rfl | (simp only [List.length_drop, List.length_take]; rfl)) ?_; (with_reducible refine (wire_TakeFixed.calls _ _ y304 t308 t309 _ ?side1 ?side2 A11.out).mono ?_); (case side1 => repeat (first | exact (Kd.C_below HR307.out HB.out) | (with_reducible refine Kd.C_alloc ?_ _) | (with_reducible refine Kd.C_drewN ?_ _) | (with_reducible refine Kd.C_drew ?_))); (case side2 => exact HC307.out); rintro e w' ⟨rfl, ⟨nd, rfl⟩⟩; refine ⟨_, rfl, ?_⟩; (try (rw [drewN_self wc]; generalize hq_ : World.drewN wc _ = wc; have n0_ : Aside0 (wc.heap[gb301]? = some (.cells #[.int .i64 0, .int .i64 0, .int .i64 0] 23 (0, 0))) := ⟨by rw [← hq_]; exact (by (with_reducible repeat (first | refine blk_drewN ?_ _ | refine blk_drew ?_ | refine blk_alloc ?_ _)); exact BK301.out)⟩; have n1_ : Aside0 (Below w.heap.size w wc) := ⟨by rw [← hq_]; exact (by repeat (first | (with_reducible first | exact HB.out | apply below_alloc | apply pw_below_drewN | apply below_drew1 | refine below_set ?_ GE301.out) | exact HB.out))⟩; clear BK301 HB hq_; have BK301 := n0_; have HB := n1_; clear n0_ n1_)); have q18 : (8 : Int) ≤ ((l0.length : Int) : Int) := of_decide_eq_true (by first | (with_reducible assumption) | assumption); obtain ⟨i018, hi018, _, hsz18, _⟩ := info_parts info5; have hroom18 : l0.length ≤ c0 := HC0.out; have hC18 : Kd.C (Kd.int .u8) _ A0 l0.length l0 := HR0.out; have hcut18 := cut_from (P := Try.prog) 25 5 .i64 Try.underlying25 hi018 1 hsz18 A0 l0.length c0 8 (by omega) q18; have hr18 := Kd.C_drop (m := (8 : Int).toNat) (c := c0) hC18 (by omega) hroom18; obtain ⟨A18, hA18⟩ : ∃ A1, A1 = (if c0 = (8 : Int).toNat then A0 else (A0 : Option Addr).map (·.add ((8 : Int).toNat * 1))) := ⟨_, rfl⟩; obtain ⟨c18, hc18⟩ : ∃ c1, c1 = c0 - (8 : Int).toNat := ⟨_, rfl⟩; have hy18 : y310.length = l0.length - (8 : Int).toNat := (by rw [Ny310.out, List.length_drop] <;> omega); rw [show (l0).drop (8 : Int).toNat = y310 from Ny310.out.symm] at hr18; replace hr18 : Kd.C (Kd.int .u8) _ A18 y310.length y310 := (by rw [hA18]; exact hr18); rw [← hy18, ← hA18, ← hc18] at hcut18; have HR313 := Aside0.mk hr18; have HC313 := Aside0.mk (show y310.length ≤ c18 from by rw [hy18, hc18]; exact Nat.sub_le_sub_right hroom18 _); clear hr18 hC18 hroom18 hi018 hsz18 hc18; have KY18 := Aside0.mk hy18; have KA18 := Aside0.mk hA18; clear hy18 hA18; replace q18 := eq_true q18) | ((with_reducible refine gate_callee (f := 40) rfl ?_); refine goesL_ (some 36) rfl rfl Try.func40 (by kernel_rfl) rfl #[.slice A18 y310.length c18] rfl (by (try simp only [List.map_toArray, List.map_cons, List.map_nil]); first | done | rfl | (simp only [List.length_drop, List.length_take]; rfl)) ?_; (with_reducible refine (wire_TakeFixed.calls _ _ y310 t314 t315 _ ?side1 ?side2 A13.out).mono ?_); (case side1 => repeat (first | exact (Kd.C_below HR313.out HB.out) | (with_reducible refine Kd.C_alloc ?_ _) | (with_reducible refine Kd.C_drewN ?_ _) | (with_reducible refine Kd.C_drew ?_))); (case side2 => exact HC313.out); rintro e w' ⟨rfl, ⟨nd, rfl⟩⟩; refine ⟨_, rfl, ?_⟩; (try (rw [drewN_self wc]; generalize hq_ : World.drewN wc _ = wc; have n0_ : Aside0 (wc.heap[gb301]? = some (.cells #[.int .i64 0, .int .i64 0, .int .i64 0] 23 (0, 0))) := ⟨by rw [← hq_]; exact (by (with_reducible repeat (first | refine blk_drewN ?_ _ | refine blk_drew ?_ | refine blk_alloc ?_ _)); exact BK301.out)⟩; have n1_ : Aside0 (Below w.heap.size w wc) := ⟨by rw [← hq_]; exact (by repeat (first | (with_reducible first | exact HB.out | apply below_alloc | apply pw_below_drewN | apply below_drew1 | refine below_set ?_ GE301.out) | exact HB.out))⟩; clear BK301 HB hq_; have BK301 := n0_; have HB := n1_; clear n0_ n1_)); have q19 : (12 : Int) ≤ ((l0.length : Int) : Int) := of_decide_eq_true (by first | (with_reducible assumption) | assumption); obtain ⟨i019, hi019, _, hsz19, _⟩ := info_parts info5; have hroom19 : l0.length ≤ c0 := HC0.out; have hC19 : Kd.C (Kd.int .u8) _ A0 l0.length l0 := HR0.out; have hcut19 := cut_from (P := Try.prog) 25 5 .i64 Try.underlying25 hi019 1 hsz19 A0 l0.length c0 12 (by omega) q19; have hr19 := Kd.C_drop (m := (12 : Int).toNat) (c := c0) hC19 (by omega) hroom19; obtain ⟨A19, hA19⟩ : ∃ A1, A1 = (if c0 = (12 : Int).toNat then A0 else (A0 : Option Addr).map (·.add ((12 : Int).toNat * 1))) := ⟨_, rfl⟩; obtain ⟨c19, hc19⟩ : ∃ c1, c1 = c0 - (12 : Int).toNat := ⟨_, rfl⟩; have hy19 : y316.length = l0.length - (12 : Int).toNat := (by rw [Ny316.out, List.length_drop] <;> omega); rw [show (l0).drop (12 : Int).toNat = y316 from Ny316.out.symm] at hr19; replace hr19 : Kd.C (Kd.int .u8) _ A19 y316.length y316 := (by rw [hA19]; exact hr19); rw [← hy19, ← hA19, ← hc19] at hcut19; have HR319 := Aside0.mk hr19; have HC319 := Aside0.mk (show y316.length ≤ c19 from by rw [hy19, hc19]; exact Nat.sub_le_sub_right hroom19 _); clear hr19 hC19 hroom19 hi019 hsz19 hc19; have KY19 := Aside0.mk hy19; have KA19 := Aside0.mk hA19; clear hy19 hA19; replace q19 := eq_true q19) | ((with_reducible refine gate_callee (f := 40) rfl ?_); refine goesL_ (some 42) rfl rfl Try.func40 (by kernel_rfl) rfl #[.slice A19 y316.length c19] rfl (by (try simp only [List.map_toArray, List.map_cons, List.map_nil]); first | done | rfl | (simp only [List.length_drop, List.length_take]; rfl)) ?_; (with_reducible refine (wire_TakeFixed.calls _ _ y316 t320 t321 _ ?side1 ?side2 A15.out).mono ?_); (case side1 => repeat (first | exact (Kd.C_below HR319.out HB.out) | (with_reducible refine Kd.C_alloc ?_ _) | (with_reducible refine Kd.C_drewN ?_ _) | (with_reducible refine Kd.C_drew ?_))); (case side2 => exact HC319.out); rintro e w' ⟨rfl, ⟨nd, rfl⟩⟩; refine ⟨_, rfl, ?_⟩; (try (rw [drewN_self wc]; generalize hq_ : World.drewN wc _ = wc; have n0_ : Aside0 (wc.heap[gb301]? = some (.cells #[.int .i64 0, .int .i64 0, .int .i64 0] 23 (0, 0))) := ⟨by rw [← hq_]; exact (by (with_reducible repeat (first | refine blk_drewN ?_ _ | refine blk_drew ?_ | refine blk_alloc ?_ _)); exact BK301.out)⟩; have n1_ : Aside0 (Below w.heap.size w wc) := ⟨by rw [← hq_]; exact (by repeat (first | (with_reducible first | exact HB.out | apply below_alloc | apply pw_below_drewN | apply below_drew1 | refine below_set ?_ GE301.out) | exact HB.out))⟩; clear BK301 HB hq_; have BK301 := n0_; have HB := n1_; clear n0_ n1_)); have hcz20_0 : wc.cell? ⟨gb301, 0, none⟩ = some (.int .i64 0) := (blk_cell BK301.out 0).trans rfl; have hcz20_1 : wc.cell? ⟨gb301, 1, none⟩ = some (.int .i64 0) := (blk_cell BK301.out 1).trans rfl; have hcz20_2 : wc.cell? ⟨gb301, 2, none⟩ = some (.int .i64 0) := (blk_cell BK301.out 2).trans rfl; have hfz20_0 := blk_frozen BK301.out 0; have hfz20_1 := blk_frozen BK301.out 1; have hfz20_2 := blk_frozen BK301.out 2))
                refine bodyPost_ret (results_ct rfl _ _ gb301 23 #[.int .i64 0, .int .i64 0, .int .i64 0] (0, 0) _ rfl (by (with_reducible repeat (first | refine blk_drewN ?_ _ | refine blk_drew ?_ | refine blk_alloc ?_ _)); refine blk_put (cs := #[.int .i64 0, .int .i64 0, .int .i64 0]) ?_ 2 _ rfl; (with_reducible repeat (first | refine blk_drewN ?_ _ | refine blk_drew ?_ | refine blk_alloc ?_ _)); refine blk_put (cs := #[.int .i64 0, .int .i64 0, .int .i64 0]) ?_ 1 _ rfl; (with_reducible repeat (first | refine blk_drewN ?_ _ | refine blk_drew ?_ | refine blk_alloc ?_ _)); refine blk_put (cs := #[.int .i64 0, .int .i64 0, .int .i64 0]) ?_ 0 _ rfl; (with_reducible repeat (first | refine blk_drewN ?_ _ | refine blk_drew ?_ | refine blk_alloc ?_ _)); exact BK301.out) Try.underlying23 rfl (by kernel_rfl)) rfl ?_
                exact ⟨by first | rfl | (simp [errW_none, errW_some] <;> rfl) | (simp [*, errW_none, errW_some] <;> rfl), by repeat (first | (with_reducible first | exact HB.out | apply below_alloc | apply pw_below_drewN | apply below_drew1 | refine below_set ?_ GE301.out) | exact HB.out)⟩
              · rw [if_neg c16] at H
                have c16b0 : decide (262144 < t320) = false := decide_eq_false c16
                clear c16
                by_cases c21 : 2 < (l0.length : Int)
                · rw [if_pos c21] at H
                  have c21b0 : decide (2 < (l0.length : Int)) = true := decide_eq_true c21
                  have c21b1 : decide (2 < l0.length) = true := decide_eq_true (by omega)
                  clear c21
                  replace H := Option.bind_eq_some_iff.mp H
                  obtain ⟨t324, A220, H⟩ := H
                  replace H : (if t324 = true then (if 3 < (l0.length : Int) then ((mark_letter.f (wrap64 (t308))).bind fun t326 => (if (rd l0 3) = t326 then (some (wrap64 (rd l0 2), wrap64 (t308), Go.bits .or .i64 (wrap64 ((wrap64 (t320)) * 4294967296)) (wrap64 (t314)), 0)) else (some (0, 0, 0, 3)))) else (none)) else (some (0, 0, 0, 3))) = some (r1, r2, r3, r4) := H
                  have A22 := Aside0.mk A220
                  clear A220
                  by_cases c23 : t324 = true
                  · subst c23
                    have H1 : (if 3 < (l0.length : Int) then ((mark_letter.f (wrap64 (t308))).bind fun t326 => (if (rd l0 3) = t326 then (some (wrap64 (rd l0 2), wrap64 (t308), Go.bits .or .i64 (wrap64 ((wrap64 (t320)) * 4294967296)) (wrap64 (t314)), 0)) else (some (0, 0, 0, 3)))) else (none)) = some (r1, r2, r3, r4) := by rw [if_pos rfl] at H; exact H
                    clear H
                    have H := H1
                    clear H1
                    by_cases c24 : 3 < (l0.length : Int)
                    · rw [if_pos c24] at H
                      have c24b0 : decide (3 < (l0.length : Int)) = true := decide_eq_true c24
                      have c24b1 : decide (3 < l0.length) = true := decide_eq_true (by omega)
                      clear c24
                      replace H := Option.bind_eq_some_iff.mp H
                      obtain ⟨t326, A250, H⟩ := H
                      replace H : (if (rd l0 3) = t326 then (some (wrap64 (rd l0 2), wrap64 (t308), Go.bits .or .i64 (wrap64 ((wrap64 (t320)) * 4294967296)) (wrap64 (t314)), 0)) else (some (0, 0, 0, 3))) = some (r1, r2, r3, r4) := H
                      have A25 := Aside0.mk A250
                      clear A250
                      by_cases c26 : (rd l0 3) = t326
                      · rw [if_pos c26] at H
                        have c26b0 : ((rd l0 3) == t326) = true := beq_iff_eq.mpr c26
                        have c26b1 : ((rd l0 3) != t326) = false := bne_eq_false_iff_eq.mpr c26
                        clear c26
                        simp only [Option.some.injEq, Prod.mk.injEq] at H
                        obtain ⟨rfl, rfl, rfl, rfl⟩ := H
                        have q27 : (4 : Int) ≤ ((l0.length : Int) : Int) := of_decide_eq_true (by first | (with_reducible assumption) | assumption)
                        obtain ⟨i027, hi027, _, hsz27, _⟩ := info_parts info5
                        have hroom27 : l0.length ≤ c0 := HC0.out
                        have hC27 : Kd.C (Kd.int .u8) _ A0 l0.length l0 := HR0.out
                        have hcut27 := cut_from (P := Try.prog) 25 5 .i64 Try.underlying25 hi027 1 hsz27 A0 l0.length c0 4 (by omega) q27
                        have hr27 := Kd.C_drop (m := (4 : Int).toNat) (c := c0) hC27 (by omega) hroom27
                        obtain ⟨A27, hA27⟩ : ∃ A1, A1 = (if c0 = (4 : Int).toNat then A0 else (A0 : Option Addr).map (·.add ((4 : Int).toNat * 1))) := ⟨_, rfl⟩
                        obtain ⟨c27, hc27⟩ : ∃ c1, c1 = c0 - (4 : Int).toNat := ⟨_, rfl⟩
                        have hy27 : y304.length = l0.length - (4 : Int).toNat := (by rw [Ny304.out, List.length_drop] <;> omega)
                        rw [show (l0).drop (4 : Int).toNat = y304 from Ny304.out.symm] at hr27
                        replace hr27 : Kd.C (Kd.int .u8) _ A27 y304.length y304 := (by rw [hA27]; exact hr27)
                        rw [← hy27, ← hA27, ← hc27] at hcut27
                        have HR307 := Aside0.mk hr27
                        have HC307 := Aside0.mk (show y304.length ≤ c27 from by rw [hy27, hc27]; exact Nat.sub_le_sub_right hroom27 _)
                        clear hr27 hC27 hroom27 hi027 hsz27 hc27
                        have KY27 := Aside0.mk hy27
                        have KA27 := Aside0.mk hA27
                        clear hy27 hA27
                        replace q27 := eq_true q27
                        try go_wp2_with (first | ((with_reducible refine gate_callee (f := 40) rfl ?_); refine goesL_ (some 30) rfl rfl Try.func40 (by kernel_rfl) rfl #[.slice A27 y304.length c27] rfl (by (try simp only [List.map_toArray, List.map_cons, List.map_nil]); first | done | rfl | (simp only [List.length_drop, List.length_take]; rfl)) ?_; (with_reducible refine (wire_TakeFixed.calls _ _ y304 t308 t309 _ ?side1 ?side2 A11.out).mono ?_); (case side1 => repeat (first | exact (Kd.C_below HR307.out HB.out) | (with_reducible refine Kd.C_alloc ?_ _) | (with_reducible refine Kd.C_drewN ?_ _) | (with_reducible refine Kd.C_drew ?_))); (case side2 => exact HC307.out); rintro e w' ⟨rfl, ⟨nd, rfl⟩⟩; refine ⟨_, rfl, ?_⟩; (try (rw [drewN_self wc]; generalize hq_ : World.drewN wc _ = wc; have n0_ : Aside0 (wc.heap[gb301]? = some (.cells #[.int .i64 0, .int .i64 0, .int .i64 0] 23 (0, 0))) := ⟨by rw [← hq_]; exact (by (with_reducible repeat (first | refine blk_drewN ?_ _ | refine blk_drew ?_ | refine blk_alloc ?_ _)); exact BK301.out)⟩; have n1_ : Aside0 (Below w.heap.size w wc) := ⟨by rw [← hq_]; exact (by repeat (first | (with_reducible first | exact HB.out | apply below_alloc | apply pw_below_drewN | apply below_drew1 | refine below_set ?_ GE301.out) | exact HB.out))⟩; clear BK301 HB hq_; have BK301 := n0_; have HB := n1_; clear n0_ n1_)); have q28 : (8 : Int) ≤ ((l0.length : Int) : Int) := of_decide_eq_true (by first | (with_reducible assumption) | assumption); obtain ⟨i028, hi028, _, hsz28, _⟩ := info_parts info5; have hroom28 : l0.length ≤ c0 := HC0.out; have hC28 : Kd.C (Kd.int .u8) _ A0 l0.length l0 := HR0.out; have hcut28 := cut_from (P := Try.prog) 25 5 .i64 Try.underlying25 hi028 1 hsz28 A0 l0.length c0 8 (by omega) q28; have hr28 := Kd.C_drop (m := (8 : Int).toNat) (c := c0) hC28 (by omega) hroom28; obtain ⟨A28, hA28⟩ : ∃ A1, A1 = (if c0 = (8 : Int).toNat then A0 else (A0 : Option Addr).map (·.add ((8 : Int).toNat * 1))) := ⟨_, rfl⟩; obtain ⟨c28, hc28⟩ : ∃ c1, c1 = c0 - (8 : Int).toNat := ⟨_, rfl⟩; have hy28 : y310.length = l0.length - (8 : Int).toNat := (by rw [Ny310.out, List.length_drop] <;> omega); rw [show (l0).drop (8 : Int).toNat = y310 from Ny310.out.symm] at hr28; replace hr28 : Kd.C (Kd.int .u8) _ A28 y310.length y310 := (by rw [hA28]; exact hr28); rw [← hy28, ← hA28, ← hc28] at hcut28; have HR313 := Aside0.mk hr28; have HC313 := Aside0.mk (show y310.length ≤ c28 from by rw [hy28, hc28]; exact Nat.sub_le_sub_right hroom28 _); clear hr28 hC28 hroom28 hi028 hsz28 hc28; have KY28 := Aside0.mk hy28; have KA28 := Aside0.mk hA28; clear hy28 hA28; replace q28 := eq_true q28) | ((with_reducible refine gate_callee (f := 40) rfl ?_); refine goesL_ (some 36) rfl rfl Try.func40 (by kernel_rfl) rfl #[.slice A28 y310.length c28] rfl (by (try simp only [List.map_toArray, List.map_cons, List.map_nil]); first | done | rfl | (simp only [List.length_drop, List.length_take]; rfl)) ?_; (with_reducible refine (wire_TakeFixed.calls _ _ y310 t314 t315 _ ?side1 ?side2 A13.out).mono ?_); (case side1 => repeat (first | exact (Kd.C_below HR313.out HB.out) | (with_reducible refine Kd.C_alloc ?_ _) | (with_reducible refine Kd.C_drewN ?_ _) | (with_reducible refine Kd.C_drew ?_))); (case side2 => exact HC313.out); rintro e w' ⟨rfl, ⟨nd, rfl⟩⟩; refine ⟨_, rfl, ?_⟩; (try (rw [drewN_self wc]; generalize hq_ : World.drewN wc _ = wc; have n0_ : Aside0 (wc.heap[gb301]? = some (.cells #[.int .i64 0, .int .i64 0, .int .i64 0] 23 (0, 0))) := ⟨by rw [← hq_]; exact (by (with_reducible repeat (first | refine blk_drewN ?_ _ | refine blk_drew ?_ | refine blk_alloc ?_ _)); exact BK301.out)⟩; have n1_ : Aside0 (Below w.heap.size w wc) := ⟨by rw [← hq_]; exact (by repeat (first | (with_reducible first | exact HB.out | apply below_alloc | apply pw_below_drewN | apply below_drew1 | refine below_set ?_ GE301.out) | exact HB.out))⟩; clear BK301 HB hq_; have BK301 := n0_; have HB := n1_; clear n0_ n1_)); have q29 : (12 : Int) ≤ ((l0.length : Int) : Int) := of_decide_eq_true (by first | (with_reducible assumption) | assumption); obtain ⟨i029, hi029, _, hsz29, _⟩ := info_parts info5; have hroom29 : l0.length ≤ c0 := HC0.out; have hC29 : Kd.C (Kd.int .u8) _ A0 l0.length l0 := HR0.out; have hcut29 := cut_from (P := Try.prog) 25 5 .i64 Try.underlying25 hi029 1 hsz29 A0 l0.length c0 12 (by omega) q29; have hr29 := Kd.C_drop (m := (12 : Int).toNat) (c := c0) hC29 (by omega) hroom29; obtain ⟨A29, hA29⟩ : ∃ A1, A1 = (if c0 = (12 : Int).toNat then A0 else (A0 : Option Addr).map (·.add ((12 : Int).toNat * 1))) := ⟨_, rfl⟩; obtain ⟨c29, hc29⟩ : ∃ c1, c1 = c0 - (12 : Int).toNat := ⟨_, rfl⟩; have hy29 : y316.length = l0.length - (12 : Int).toNat := (by rw [Ny316.out, List.length_drop] <;> omega); rw [show (l0).drop (12 : Int).toNat = y316 from Ny316.out.symm] at hr29; replace hr29 : Kd.C (Kd.int .u8) _ A29 y316.length y316 := (by rw [hA29]; exact hr29); rw [← hy29, ← hA29, ← hc29] at hcut29; have HR319 := Aside0.mk hr29; have HC319 := Aside0.mk (show y316.length ≤ c29 from by rw [hy29, hc29]; exact Nat.sub_le_sub_right hroom29 _); clear hr29 hC29 hroom29 hi029 hsz29 hc29; have KY29 := Aside0.mk hy29; have KA29 := Aside0.mk hA29; clear hy29 hA29; replace q29 := eq_true q29) | ((with_reducible refine gate_callee (f := 40) rfl ?_); refine goesL_ (some 42) rfl rfl Try.func40 (by kernel_rfl) rfl #[.slice A29 y316.length c29] rfl (by (try simp only [List.map_toArray, List.map_cons, List.map_nil]); first | done | rfl | (simp only [List.length_drop, List.length_take]; rfl)) ?_; (with_reducible refine (wire_TakeFixed.calls _ _ y316 t320 t321 _ ?side1 ?side2 A15.out).mono ?_); (case side1 => repeat (first | exact (Kd.C_below HR319.out HB.out) | (with_reducible refine Kd.C_alloc ?_ _) | (with_reducible refine Kd.C_drewN ?_ _) | (with_reducible refine Kd.C_drew ?_))); (case side2 => exact HC319.out); rintro e w' ⟨rfl, ⟨nd, rfl⟩⟩; refine ⟨_, rfl, ?_⟩; (try (rw [drewN_self wc]; generalize hq_ : World.drewN wc _ = wc; have n0_ : Aside0 (wc.heap[gb301]? = some (.cells #[.int .i64 0, .int .i64 0, .int .i64 0] 23 (0, 0))) := ⟨by rw [← hq_]; exact (by (with_reducible repeat (first | refine blk_drewN ?_ _ | refine blk_drew ?_ | refine blk_alloc ?_ _)); exact BK301.out)⟩; have n1_ : Aside0 (Below w.heap.size w wc) := ⟨by rw [← hq_]; exact (by repeat (first | (with_reducible first | exact HB.out | apply below_alloc | apply pw_below_drewN | apply below_drew1 | refine below_set ?_ GE301.out) | exact HB.out))⟩; clear BK301 HB hq_; have BK301 := n0_; have HB := n1_; clear n0_ n1_)); have p322 : 0 ≤ (2 : Int) := (by omega); have q322 : 2 < (l0.length : Int) := of_decide_eq_true (by first | (with_reducible assumption) | assumption); obtain ⟨ad322, e322, hx322_0⟩ := Kd.at_int HR0.out 2 p322 q322; cases e322; (try simp only [show (2 : Int).toNat = 2 from rfl, Nat.reduceMul, Nat.reduceEqDiff, Go.Addr.add, ↓reduceIte] at hx322_0); have qi322 : (2 < l0.length) = True := eq_true (by omega); (try rw [show ((2 : Int)).toNat = 2 from rfl] at hx322_0); replace hx322_0 := (HB.out.cell (World.block_lt_of_cell? w _ hx322_0)).trans hx322_0; replace p322 := eq_true p322; replace q322 := eq_true q322) | ((with_reducible refine gate_dst (N := 10) rfl ?_); refine box_event ?hg (N := 10) ?hd (cs := #[.int .i64 0, .int .i64 0, .int .i64 0]) (t := 23) ?hr ?_; (case hd => rfl); (case hg => rfl); (case hr => first | (go_simp; done) | (go_simp; rfl)); intro gb323 hg w30 hbox hb; have n0_ := Aside0.mk (blk_below (g := gb301) (o := .cells #[.int .i64 0, .int .i64 0, .int .i64 0] 23 (0, 0)) (by (with_reducible repeat (first | refine blk_drewN ?_ _ | refine blk_drew ?_ | refine blk_alloc ?_ _)); exact BK301.out) hb); have n1_ := Aside0.mk (below_step (by repeat (first | (with_reducible first | exact HB.out | apply below_alloc | apply pw_below_drewN | apply below_drew1 | refine below_set ?_ GE301.out) | exact HB.out)) hb); have n2_ := Aside0.mk (hbox); have n3_ := Aside0.mk ((by rw [hg]; exact (below_size (by repeat (first | (with_reducible first | exact HB.out | apply below_alloc | apply pw_below_drewN | apply below_drew1 | refine below_set ?_ GE301.out) | exact HB.out))) : w.heap.size ≤ gb323)); have n4_ := Aside0.mk ((by rw [hg]; exact (below_size (by repeat (first | (with_reducible first | exact HB.out | apply below_alloc | apply pw_below_drewN | apply below_drew1 | refine below_set ?_ GE301.out) | exact HB.out))) : w.heap.size ≤ gb323)); have n5_ := Aside0.mk ((by rw [hg]; exact Nat.ne_of_lt (blk_lt (g := gb301) (o := .cells #[.int .i64 0, .int .i64 0, .int .i64 0] 23 (0, 0)) (by (with_reducible repeat (first | refine blk_drewN ?_ _ | refine blk_drew ?_ | refine blk_alloc ?_ _)); exact BK301.out)) : gb301 ≠ gb323)); have n6_ := Aside0.mk ((by rw [hg]; exact Nat.ne_of_gt (blk_lt (g := gb301) (o := .cells #[.int .i64 0, .int .i64 0, .int .i64 0] 23 (0, 0)) (by (with_reducible repeat (first | refine blk_drewN ?_ _ | refine blk_drew ?_ | refine blk_alloc ?_ _)); exact BK301.out)) : gb323 ≠ gb301)); clear BK301; clear HB; have BK301 := n0_; have HB := n1_; have BK323 := n2_; have GW323 := n3_; have GE323 := n4_; have NB301_323 := n5_; have NB323_301 := n6_; clear n0_ n1_ n2_ n3_ n4_ n5_ n6_; clear hb hbox hg; have hnb31 := NB323_301.out; have hnc31 := NB301_323.out; have hcz32_0 : w30.cell? ⟨gb323, 0, none⟩ = some (.int .i64 0) := (blk_cell BK323.out 0).trans rfl; have hcz32_1 : w30.cell? ⟨gb323, 1, none⟩ = some (.int .i64 0) := (blk_cell BK323.out 1).trans rfl; have hcz32_2 : w30.cell? ⟨gb323, 2, none⟩ = some (.int .i64 0) := (blk_cell BK323.out 2).trans rfl; have hfz32_0 := blk_frozen BK323.out 0; have hfz32_1 := blk_frozen BK323.out 1; have hfz32_2 := blk_frozen BK323.out 2))
                        have n0_ : Aside0 ((((w30.setCell ⟨gb323, 0, none⟩ (.int .i64 (wrap64 (rd l0 2)))).setCell ⟨gb323, 1, none⟩ (.int .i64 (wrap64 (t308)))).setCell ⟨gb323, 2, none⟩ (.int .i64 (Go.bits .or .i64 (wrap64 ((wrap64 (t320)) * 4294967296)) (wrap64 (t314))))).heap[gb301]? = some (.cells #[.int .i64 0, .int .i64 0, .int .i64 0] 23 (0, 0))) := ⟨by (with_reducible repeat (first | refine blk_drewN ?_ _ | refine blk_drew ?_ | refine blk_alloc ?_ _)); refine blk_far ?_ NB301_323.out _; (with_reducible repeat (first | refine blk_drewN ?_ _ | refine blk_drew ?_ | refine blk_alloc ?_ _)); refine blk_far ?_ NB301_323.out _; (with_reducible repeat (first | refine blk_drewN ?_ _ | refine blk_drew ?_ | refine blk_alloc ?_ _)); refine blk_far ?_ NB301_323.out _; (with_reducible repeat (first | refine blk_drewN ?_ _ | refine blk_drew ?_ | refine blk_alloc ?_ _)); exact BK301.out⟩
                        have n1_ : Aside0 ((((w30.setCell ⟨gb323, 0, none⟩ (.int .i64 (wrap64 (rd l0 2)))).setCell ⟨gb323, 1, none⟩ (.int .i64 (wrap64 (t308)))).setCell ⟨gb323, 2, none⟩ (.int .i64 (Go.bits .or .i64 (wrap64 ((wrap64 (t320)) * 4294967296)) (wrap64 (t314))))).heap[gb323]? = some (.cells #[.int .i64 (wrap64 (rd l0 2)), .int .i64 (wrap64 (t308)), .int .i64 (Go.bits .or .i64 (wrap64 ((wrap64 (t320)) * 4294967296)) (wrap64 (t314)))] 23 (0, 0))) := ⟨by (with_reducible repeat (first | refine blk_drewN ?_ _ | refine blk_drew ?_ | refine blk_alloc ?_ _)); refine blk_put (cs := #[.int .i64 (wrap64 (rd l0 2)), .int .i64 (wrap64 (t308)), .int .i64 0]) ?_ 2 _ rfl; (with_reducible repeat (first | refine blk_drewN ?_ _ | refine blk_drew ?_ | refine blk_alloc ?_ _)); refine blk_put (cs := #[.int .i64 (wrap64 (rd l0 2)), .int .i64 0, .int .i64 0]) ?_ 1 _ rfl; (with_reducible repeat (first | refine blk_drewN ?_ _ | refine blk_drew ?_ | refine blk_alloc ?_ _)); refine blk_put (cs := #[.int .i64 0, .int .i64 0, .int .i64 0]) ?_ 0 _ rfl; (with_reducible repeat (first | refine blk_drewN ?_ _ | refine blk_drew ?_ | refine blk_alloc ?_ _)); exact BK323.out⟩
                        have n2_ : Aside0 (Below w.heap.size w (((w30.setCell ⟨gb323, 0, none⟩ (.int .i64 (wrap64 (rd l0 2)))).setCell ⟨gb323, 1, none⟩ (.int .i64 (wrap64 (t308)))).setCell ⟨gb323, 2, none⟩ (.int .i64 (Go.bits .or .i64 (wrap64 ((wrap64 (t320)) * 4294967296)) (wrap64 (t314)))))) := ⟨by repeat (first | (with_reducible first | exact HB.out | apply below_alloc | apply pw_below_drewN | apply below_drew1 | refine below_set ?_ GE301.out | refine below_set ?_ GE323.out) | exact HB.out)⟩
                        (try clear BK301)
                        (try clear BK323)
                        (try clear HB)
                        (try simp only [IntKind.wrap_u8, IntKind.wrap_u32])
                        generalize (((w30.setCell ⟨gb323, 0, none⟩ (.int .i64 (wrap64 (rd l0 2)))).setCell ⟨gb323, 1, none⟩ (.int .i64 (wrap64 (t308)))).setCell ⟨gb323, 2, none⟩ (.int .i64 (Go.bits .or .i64 (wrap64 ((wrap64 (t320)) * 4294967296)) (wrap64 (t314))))) = w33 at n0_ n1_ n2_ ⊢
                        have BK301 := n0_
                        have BK323 := n1_
                        have HB := n2_
                        clear n0_ n1_ n2_
                        (try (rw [drewN_self w33]; generalize hq_ : World.drewN w33 _ = w33; have n0_ : Aside0 (w33.heap[gb301]? = some (.cells #[.int .i64 0, .int .i64 0, .int .i64 0] 23 (0, 0))) := ⟨by rw [← hq_]; exact (by (with_reducible repeat (first | refine blk_drewN ?_ _ | refine blk_drew ?_ | refine blk_alloc ?_ _)); exact BK301.out)⟩; have n1_ : Aside0 (w33.heap[gb323]? = some (.cells #[.int .i64 (wrap64 (rd l0 2)), .int .i64 (wrap64 (t308)), .int .i64 (Go.bits .or .i64 (wrap64 ((wrap64 (t320)) * 4294967296)) (wrap64 (t314)))] 23 (0, 0))) := ⟨by rw [← hq_]; exact (by (with_reducible repeat (first | refine blk_drewN ?_ _ | refine blk_drew ?_ | refine blk_alloc ?_ _)); exact BK323.out)⟩; have n2_ : Aside0 (Below w.heap.size w w33) := ⟨by rw [← hq_]; exact (by repeat (first | (with_reducible first | exact HB.out | apply below_alloc | apply pw_below_drewN | apply below_drew1 | refine below_set ?_ GE301.out | refine below_set ?_ GE323.out) | exact HB.out))⟩; clear BK301 BK323 HB hq_; have BK301 := n0_; have BK323 := n1_; have HB := n2_; clear n0_ n1_ n2_))
                        have n0_ := Aside0.mk (blk_drew BK301.out)
                        have n1_ := Aside0.mk (blk_drew BK323.out)
                        have n2_ := Aside0.mk (below_drew1 HB.out)
                        clear BK301
                        clear BK323
                        clear HB
                        have BK301 := n0_
                        have BK323 := n1_
                        have HB := n2_
                        clear n0_ n1_ n2_
                        have p325 : 0 ≤ (3 : Int) := (by omega)
                        have q325 : 3 < (l0.length : Int) := of_decide_eq_true (by first | (with_reducible assumption) | assumption)
                        obtain ⟨ad325, e325, hx325_0⟩ := Kd.at_int HR0.out 3 p325 q325
                        have hw325_0 := hx325_0
                        (try rw [show ((3 : Int)).toNat = 3 from rfl] at hw325_0)
                        (try rw [show 3 * 1 = 3 from rfl] at hw325_0)
                        (try simp only [Nat.reduceMul, Nat.reduceEqDiff, Go.Addr.add, ↓reduceIte] at hw325_0)
                        obtain rfl : ad322 = ad325 := (by injection e325)
                        (try simp only [show (3 : Int).toNat = 3 from rfl, Nat.reduceMul, Nat.reduceEqDiff, Go.Addr.add, ↓reduceIte] at hx325_0)
                        have qi325 : (3 < l0.length) = True := eq_true (by omega)
                        (try rw [show ((3 : Int)).toNat = 3 from rfl] at hx325_0)
                        replace hx325_0 := (HB.out.cell (World.block_lt_of_cell? w _ hx325_0)).trans hx325_0
                        replace p325 := eq_true p325
                        replace q325 := eq_true q325
                        refine start_ (n := 12) (S := fun w' => w'.cell? ⟨gb323, 0, none⟩ = some (.int .i64 (wrap64 (rd l0 2))) ∧ w'.cell? ⟨gb323, 1, none⟩ = some (.int .i64 (wrap64 (t308))) ∧ w'.cell? ⟨gb323, 2, none⟩ = some (.int .i64 (Go.bits .or .i64 (wrap64 ((wrap64 (t320)) * 4294967296)) (wrap64 (t314)))) ∧ w'.cell? ⟨ad322.block, ad322.off + 3, none⟩ = some (.int .u8 (rd l0 3))) (ds := []) #[false, false, false, false, false, false, false, false, false, false, false, false] (by kernel_rfl) rfl rfl ⟨(blk_cell BK323.out 0).trans rfl, (blk_cell BK323.out 1).trans rfl, (blk_cell BK323.out 2).trans rfl, ((HB.out.cell (World.block_lt_of_cell? w _ hw325_0)).trans hw325_0)⟩ (fun hHeld => ?_); refine with_tabW mark_Read.tab9 mark_Read.bits9 (fun HT_ HW_ => ?_)
                        generalize w33.drew = w34 at BK301 BK323 HB hx325_0 hHeld ⊢
                        refine take_ (i := 0) (N := some 61) (v := ?_) (a' := ?_) #[true, false, false, false, false, false, false, false, false, false, false, false] rfl rfl (take_ofW HT_.out HW_.out (by kernel_rfl)) (fun _ _ _ h => h) (Or.inl ⟨by rfl, ?_⟩) hHeld ?_ ?_
                        rotate_left
                        · rintro w' ⟨s0, s1, s2, s3⟩
                          go_simp
                          with_reducible rfl
                        rotate_left
                        · simp only [Act.put, List.setIfInBounds_toArray, List.set_cons_zero, List.set_cons_succ, i64_w, i32_w]
                          rfl
                        refine one_ (i := 1) (N := some 62) #[true, true, false, false, false, false, false, false, false, false, false, false] rfl rfl (one_of HT_.out (by kernel_rfl)) (by decide) (fun K hK => ?_)
                        refine goes_ Try.func20 (by kernel_rfl) rfl #[.agg #[.int .i64 (wrap64 (rd l0 2)), .int .i64 (wrap64 (t308)), .int .i64 (Go.bits .or .i64 (wrap64 ((wrap64 (t320)) * 4294967296)) (wrap64 (t314)))]] (by rfl) rfl rfl (by (try simp only [List.map_toArray, List.map_cons, List.map_nil]); first | done | rfl | (simp only [List.length_drop, List.length_take]; rfl)) ?_
                        with_reducible refine (mark_Right.calls (wrap64 (rd l0 2)) (wrap64 (t308)) (Go.bits .or .i64 (wrap64 ((wrap64 (t320)) * 4294967296)) (wrap64 (t314))) true _ A22.out).mono ?_
                        rintro e w35 ⟨rfl, hb⟩
                        refine ⟨_, rfl, ?_⟩
                        have n0_ := Aside0.mk (blk_below (g := gb301) (o := .cells #[.int .i64 0, .int .i64 0, .int .i64 0] 23 (0, 0)) (by (with_reducible repeat (first | refine blk_drewN ?_ _ | refine blk_drew ?_ | refine blk_alloc ?_ _)); exact BK301.out) hb)
                        have n1_ := Aside0.mk (blk_below (g := gb323) (o := .cells #[.int .i64 (wrap64 (rd l0 2)), .int .i64 (wrap64 (t308)), .int .i64 (Go.bits .or .i64 (wrap64 ((wrap64 (t320)) * 4294967296)) (wrap64 (t314)))] 23 (0, 0)) (by (with_reducible repeat (first | refine blk_drewN ?_ _ | refine blk_drew ?_ | refine blk_alloc ?_ _)); exact BK323.out) hb)
                        have n2_ := Aside0.mk (below_step (by repeat (first | (with_reducible first | exact HB.out | apply below_alloc | apply pw_below_drewN | apply below_drew1 | refine below_set ?_ GE301.out | refine below_set ?_ GE323.out) | exact HB.out)) hb)
                        clear BK301
                        clear BK323
                        clear HB
                        have BK301 := n0_
                        have BK323 := n1_
                        have HB := n2_
                        clear n0_ n1_ n2_
                        (try clear hb)
                        (try clear hb2)
                        (try clear hk)
                        (try clear hi)
                        refine hK.out _ _ ⟨(blk_cell BK323.out 0).trans rfl, (blk_cell BK323.out 1).trans rfl, (blk_cell BK323.out 2).trans rfl, ((HB.out.cell (World.block_lt_of_cell? w _ hw325_0)).trans hw325_0)⟩ (fun hHeld => ?_)
                        clear hK K
                        refine norm_ (a' := ?_) ?_ ?_
                        rotate_left
                        · show Act.put _ (some 62) _ = _
                          simp only [Act.put, List.setIfInBounds_toArray, List.set_cons_zero, List.set_cons_succ, i64_w, i32_w]
                          rfl
                        refine pure_ (i := 2) (N := some 63) (v := ?_) (a' := ?_) #[true, true, true, false, false, false, false, false, false, false, false, false] rfl rfl (any_of HT_.out (by kernel_rfl)) (fun _ _ _ h => h) (Or.inl ⟨by rfl, ?_⟩) ?_ ?_
                        rotate_left
                        · intro w'
                          go_simp
                          with_reducible rfl
                        rotate_left
                        · simp only [Act.put, List.setIfInBounds_toArray, List.set_cons_zero, List.set_cons_succ, i64_w, i32_w]
                          rfl
                        refine pure_ (i := 3) (N := some 64) (v := ?_) (a' := ?_) #[true, true, true, true, false, false, false, false, false, false, false, false] rfl rfl (any_of HT_.out (by kernel_rfl)) (fun _ _ _ h => h) (Or.inl ⟨by rfl, ?_⟩) ?_ ?_
                        rotate_left
                        · intro w'
                          go_simp
                          with_reducible rfl
                        rotate_left
                        · simp only [Act.put, List.setIfInBounds_toArray, List.set_cons_zero, List.set_cons_succ, i64_w, i32_w]
                          rfl
                        refine pure_ (i := 4) (N := some 65) (v := ?_) (a' := ?_) #[true, true, true, true, true, false, false, false, false, false, false, false] rfl rfl (any_of HT_.out (by kernel_rfl)) (fun _ _ _ h => h) (Or.inl ⟨by rfl, ?_⟩) ?_ ?_
                        rotate_left
                        · intro w'
                          go_simp
                          with_reducible rfl
                        rotate_left
                        · simp only [Act.put, List.setIfInBounds_toArray, List.set_cons_zero, List.set_cons_succ, i64_w, i32_w]
                          rfl
                        refine pure_ (i := 5) (N := some 66) (v := ?_) (a' := ?_) #[true, true, true, true, true, true, false, false, false, false, false, false] rfl rfl (any_of HT_.out (by kernel_rfl)) (fun _ _ _ h => h) (Or.inl ⟨by rfl, ?_⟩) ?_ ?_
                        rotate_left
                        · intro w'
                          go_simp
                          with_reducible rfl
                        rotate_left
                        · simp only [Act.put, List.setIfInBounds_toArray, List.set_cons_zero, List.set_cons_succ, i64_w, i32_w]
                          rfl
                        refine pure_ (i := 7) (N := some 68) (v := ?_) (a' := ?_) #[true, true, true, true, true, true, false, true, false, false, false, false] rfl rfl (any_of HT_.out (by kernel_rfl)) (fun _ _ _ h => h) (Or.inl ⟨by rfl, ?_⟩) ?_ ?_
                        rotate_left
                        · intro w'
                          go_simp
                          with_reducible rfl
                        rotate_left
                        · simp only [Act.put, List.setIfInBounds_toArray, List.set_cons_zero, List.set_cons_succ, i64_w, i32_w]
                          rfl
                        refine take_ (i := 6) (N := some 67) (v := ?_) (a' := ?_) #[true, true, true, true, true, true, true, true, false, false, false, false] rfl rfl (take_ofW HT_.out HW_.out (by kernel_rfl)) (fun _ _ _ h => h) (Or.inl ⟨by rfl, ?_⟩) hHeld ?_ ?_
                        rotate_left
                        · rintro w' ⟨s0, s1, s2, s3⟩
                          go_simp
                          with_reducible rfl
                        rotate_left
                        · simp only [Act.put, List.setIfInBounds_toArray, List.set_cons_zero, List.set_cons_succ, i64_w, i32_w]
                          rfl
                        refine take_ (i := 8) (N := some 69) (v := ?_) (a' := ?_) #[true, true, true, true, true, true, true, true, true, false, false, false] rfl rfl (take_ofW HT_.out HW_.out (by kernel_rfl)) (fun _ _ _ h => h) (Or.inl ⟨by rfl, ?_⟩) hHeld ?_ ?_
                        rotate_left
                        · rintro w' ⟨s0, s1, s2, s3⟩
                          go_simp
                          with_reducible rfl
                        rotate_left
                        · simp only [Act.put, List.setIfInBounds_toArray, List.set_cons_zero, List.set_cons_succ, i64_w, i32_w]
                          rfl
                        refine one_ (i := 9) (N := some 70) #[true, true, true, true, true, true, true, true, true, true, false, false] rfl rfl (one_of HT_.out (by kernel_rfl)) (by decide) (fun K hK => ?_)
                        refine goes_ Try.func32 (by kernel_rfl) rfl #[.int .i64 (wrap64 (t308))] (by rfl) rfl rfl (by (try simp only [List.map_toArray, List.map_cons, List.map_nil]); first | done | rfl | (simp only [List.length_drop, List.length_take]; rfl)) ?_
                        with_reducible refine (mark_letter.calls (wrap64 (t308)) t326 _ A25.out).mono ?_
                        rintro e w36 ⟨rfl, hb⟩
                        refine ⟨_, rfl, ?_⟩
                        have n0_ := Aside0.mk (blk_below (g := gb301) (o := .cells #[.int .i64 0, .int .i64 0, .int .i64 0] 23 (0, 0)) (by (with_reducible repeat (first | refine blk_drewN ?_ _ | refine blk_drew ?_ | refine blk_alloc ?_ _)); exact BK301.out) hb)
                        have n1_ := Aside0.mk (blk_below (g := gb323) (o := .cells #[.int .i64 (wrap64 (rd l0 2)), .int .i64 (wrap64 (t308)), .int .i64 (Go.bits .or .i64 (wrap64 ((wrap64 (t320)) * 4294967296)) (wrap64 (t314)))] 23 (0, 0)) (by (with_reducible repeat (first | refine blk_drewN ?_ _ | refine blk_drew ?_ | refine blk_alloc ?_ _)); exact BK323.out) hb)
                        have n2_ := Aside0.mk (below_step (by repeat (first | (with_reducible first | exact HB.out | apply below_alloc | apply pw_below_drewN | apply below_drew1 | refine below_set ?_ GE301.out | refine below_set ?_ GE323.out) | exact HB.out)) hb)
                        clear BK301
                        clear BK323
                        clear HB
                        have BK301 := n0_
                        have BK323 := n1_
                        have HB := n2_
                        clear n0_ n1_ n2_
                        (try clear hb)
                        (try clear hb2)
                        (try clear hk)
                        (try clear hi)
                        refine hK.out _ _ ⟨(blk_cell BK323.out 0).trans rfl, (blk_cell BK323.out 1).trans rfl, (blk_cell BK323.out 2).trans rfl, ((HB.out.cell (World.block_lt_of_cell? w _ hw325_0)).trans hw325_0)⟩ (fun hHeld => ?_)
                        clear hK K
                        refine norm_ (a' := ?_) ?_ ?_
                        rotate_left
                        · show Act.put _ (some 70) _ = _
                          simp only [Act.put, List.setIfInBounds_toArray, List.set_cons_zero, List.set_cons_succ, i64_w, i32_w]
                          rfl
                        refine pure_ (i := 10) (N := some 71) (v := ?_) (a' := ?_) #[true, true, true, true, true, true, true, true, true, true, true, false] rfl rfl (any_of HT_.out (by kernel_rfl)) (fun _ _ _ h => h) (Or.inl ⟨by rfl, ?_⟩) ?_ ?_
                        rotate_left
                        · intro w'
                          go_simp
                          with_reducible rfl
                        rotate_left
                        · simp only [Act.put, List.setIfInBounds_toArray, List.set_cons_zero, List.set_cons_succ, i64_w, i32_w]
                          rfl
                        refine pure_ (i := 11) (N := some 72) (v := ?_) (a' := ?_) #[true, true, true, true, true, true, true, true, true, true, true, true] rfl rfl (any_of HT_.out (by kernel_rfl)) (fun _ _ _ h => h) (Or.inl ⟨by rfl, ?_⟩) ?_ ?_
                        rotate_left
                        · intro w'
                          go_simp
                          with_reducible rfl
                        rotate_left
                        · simp only [Act.put, List.setIfInBounds_toArray, List.set_cons_zero, List.set_cons_succ, i64_w, i32_w]
                          rfl
                        refine done_ (done_of HT_.out (by kernel_rfl)) ?_
                        have hcz37_0 : w36.cell? ⟨gb323, 0, none⟩ = some (.int .i64 (wrap64 (rd l0 2))) := (blk_cell BK323.out 0).trans rfl
                        have hcz37_1 : w36.cell? ⟨gb323, 1, none⟩ = some (.int .i64 (wrap64 (t308))) := (blk_cell BK323.out 1).trans rfl
                        have hcz37_2 : w36.cell? ⟨gb323, 2, none⟩ = some (.int .i64 (Go.bits .or .i64 (wrap64 ((wrap64 (t320)) * 4294967296)) (wrap64 (t314)))) := (blk_cell BK323.out 2).trans rfl
                        have hfz37_0 := blk_frozen BK323.out 0
                        have hfz37_1 := blk_frozen BK323.out 1
                        have hfz37_2 := blk_frozen BK323.out 2
                        have hcz38_0 : w36.cell? ⟨gb301, 0, none⟩ = some (.int .i64 0) := (blk_cell BK301.out 0).trans rfl
                        have hcz38_1 : w36.cell? ⟨gb301, 1, none⟩ = some (.int .i64 0) := (blk_cell BK301.out 1).trans rfl
                        have hcz38_2 : w36.cell? ⟨gb301, 2, none⟩ = some (.int .i64 0) := (blk_cell BK301.out 2).trans rfl
                        have hfz38_0 := blk_frozen BK301.out 0
                        have hfz38_1 := blk_frozen BK301.out 1
                        have hfz38_2 := blk_frozen BK301.out 2
                        try go_wp2
                        refine bodyPost_ret (results_ct rfl _ _ gb301 23 #[.int .i64 (wrap64 (rd l0 2)), .int .i64 (wrap64 (t308)), .int .i64 (Go.bits .or .i64 (wrap64 ((wrap64 (t320)) * 4294967296)) (wrap64 (t314)))] (0, 0) _ rfl (by (with_reducible repeat (first | refine blk_drewN ?_ _ | refine blk_drew ?_ | refine blk_alloc ?_ _)); refine blk_put (cs := #[.int .i64 (wrap64 (rd l0 2)), .int .i64 (wrap64 (t308)), .int .i64 0]) ?_ 2 _ rfl; (with_reducible repeat (first | refine blk_drewN ?_ _ | refine blk_drew ?_ | refine blk_alloc ?_ _)); refine blk_put (cs := #[.int .i64 (wrap64 (rd l0 2)), .int .i64 0, .int .i64 0]) ?_ 1 _ rfl; (with_reducible repeat (first | refine blk_drewN ?_ _ | refine blk_drew ?_ | refine blk_alloc ?_ _)); refine blk_put (cs := #[.int .i64 0, .int .i64 0, .int .i64 0]) ?_ 0 _ rfl; (with_reducible repeat (first | refine blk_drewN ?_ _ | refine blk_drew ?_ | refine blk_alloc ?_ _)); exact BK301.out) Try.underlying23 rfl (by kernel_rfl)) rfl ?_
                        exact ⟨by first | rfl | (simp [errW_none, errW_some] <;> rfl) | (simp [*, errW_none, errW_some] <;> rfl), by repeat (first | (with_reducible first | exact HB.out | apply below_alloc | apply pw_below_drewN | apply below_drew1 | refine below_set ?_ GE301.out | refine below_set ?_ GE323.out) | exact HB.out)⟩
                      · rw [if_neg c26] at H
                        have c26b0 : ((rd l0 3) == t326) = false := beq_eq_false_iff_ne.mpr c26
                        have c26b1 : ((rd l0 3) != t326) = true := bne_iff_ne.mpr c26
                        simp only [Option.some.injEq, Prod.mk.injEq] at H
                        obtain ⟨rfl, rfl, rfl, rfl⟩ := H
                        have q39 : (4 : Int) ≤ ((l0.length : Int) : Int) := of_decide_eq_true (by first | (with_reducible assumption) | assumption)
                        obtain ⟨i039, hi039, _, hsz39, _⟩ := info_parts info5
                        have hroom39 : l0.length ≤ c0 := HC0.out
                        have hC39 : Kd.C (Kd.int .u8) _ A0 l0.length l0 := HR0.out
                        have hcut39 := cut_from (P := Try.prog) 25 5 .i64 Try.underlying25 hi039 1 hsz39 A0 l0.length c0 4 (by omega) q39
                        have hr39 := Kd.C_drop (m := (4 : Int).toNat) (c := c0) hC39 (by omega) hroom39
                        obtain ⟨A39, hA39⟩ : ∃ A1, A1 = (if c0 = (4 : Int).toNat then A0 else (A0 : Option Addr).map (·.add ((4 : Int).toNat * 1))) := ⟨_, rfl⟩
                        obtain ⟨c39, hc39⟩ : ∃ c1, c1 = c0 - (4 : Int).toNat := ⟨_, rfl⟩
                        have hy39 : y304.length = l0.length - (4 : Int).toNat := (by rw [Ny304.out, List.length_drop] <;> omega)
                        rw [show (l0).drop (4 : Int).toNat = y304 from Ny304.out.symm] at hr39
                        replace hr39 : Kd.C (Kd.int .u8) _ A39 y304.length y304 := (by rw [hA39]; exact hr39)
                        rw [← hy39, ← hA39, ← hc39] at hcut39
                        have HR307 := Aside0.mk hr39
                        have HC307 := Aside0.mk (show y304.length ≤ c39 from by rw [hy39, hc39]; exact Nat.sub_le_sub_right hroom39 _)
                        clear hr39 hC39 hroom39 hi039 hsz39 hc39
                        have KY39 := Aside0.mk hy39
                        have KA39 := Aside0.mk hA39
                        clear hy39 hA39
                        replace q39 := eq_true q39
                        try go_wp2_with (first | ((with_reducible refine gate_callee (f := 40) rfl ?_); refine goesL_ (some 30) rfl rfl Try.func40 (by kernel_rfl) rfl #[.slice A39 y304.length c39] rfl (by (try simp only [List.map_toArray, List.map_cons, List.map_nil]); first | done | rfl | (simp only [List.length_drop, List.length_take]; rfl)) ?_; (with_reducible refine (wire_TakeFixed.calls _ _ y304 t308 t309 _ ?side1 ?side2 A11.out).mono ?_); (case side1 => repeat (first | exact (Kd.C_below HR307.out HB.out) | (with_reducible refine Kd.C_alloc ?_ _) | (with_reducible refine Kd.C_drewN ?_ _) | (with_reducible refine Kd.C_drew ?_))); (case side2 => exact HC307.out); rintro e w' ⟨rfl, ⟨nd, rfl⟩⟩; refine ⟨_, rfl, ?_⟩; (try (rw [drewN_self wc]; generalize hq_ : World.drewN wc _ = wc; have n0_ : Aside0 (wc.heap[gb301]? = some (.cells #[.int .i64 0, .int .i64 0, .int .i64 0] 23 (0, 0))) := ⟨by rw [← hq_]; exact (by (with_reducible repeat (first | refine blk_drewN ?_ _ | refine blk_drew ?_ | refine blk_alloc ?_ _)); exact BK301.out)⟩; have n1_ : Aside0 (Below w.heap.size w wc) := ⟨by rw [← hq_]; exact (by repeat (first | (with_reducible first | exact HB.out | apply below_alloc | apply pw_below_drewN | apply below_drew1 | refine below_set ?_ GE301.out) | exact HB.out))⟩; clear BK301 HB hq_; have BK301 := n0_; have HB := n1_; clear n0_ n1_)); have q40 : (8 : Int) ≤ ((l0.length : Int) : Int) := of_decide_eq_true (by first | (with_reducible assumption) | assumption); obtain ⟨i040, hi040, _, hsz40, _⟩ := info_parts info5; have hroom40 : l0.length ≤ c0 := HC0.out; have hC40 : Kd.C (Kd.int .u8) _ A0 l0.length l0 := HR0.out; have hcut40 := cut_from (P := Try.prog) 25 5 .i64 Try.underlying25 hi040 1 hsz40 A0 l0.length c0 8 (by omega) q40; have hr40 := Kd.C_drop (m := (8 : Int).toNat) (c := c0) hC40 (by omega) hroom40; obtain ⟨A40, hA40⟩ : ∃ A1, A1 = (if c0 = (8 : Int).toNat then A0 else (A0 : Option Addr).map (·.add ((8 : Int).toNat * 1))) := ⟨_, rfl⟩; obtain ⟨c40, hc40⟩ : ∃ c1, c1 = c0 - (8 : Int).toNat := ⟨_, rfl⟩; have hy40 : y310.length = l0.length - (8 : Int).toNat := (by rw [Ny310.out, List.length_drop] <;> omega); rw [show (l0).drop (8 : Int).toNat = y310 from Ny310.out.symm] at hr40; replace hr40 : Kd.C (Kd.int .u8) _ A40 y310.length y310 := (by rw [hA40]; exact hr40); rw [← hy40, ← hA40, ← hc40] at hcut40; have HR313 := Aside0.mk hr40; have HC313 := Aside0.mk (show y310.length ≤ c40 from by rw [hy40, hc40]; exact Nat.sub_le_sub_right hroom40 _); clear hr40 hC40 hroom40 hi040 hsz40 hc40; have KY40 := Aside0.mk hy40; have KA40 := Aside0.mk hA40; clear hy40 hA40; replace q40 := eq_true q40) | ((with_reducible refine gate_callee (f := 40) rfl ?_); refine goesL_ (some 36) rfl rfl Try.func40 (by kernel_rfl) rfl #[.slice A40 y310.length c40] rfl (by (try simp only [List.map_toArray, List.map_cons, List.map_nil]); first | done | rfl | (simp only [List.length_drop, List.length_take]; rfl)) ?_; (with_reducible refine (wire_TakeFixed.calls _ _ y310 t314 t315 _ ?side1 ?side2 A13.out).mono ?_); (case side1 => repeat (first | exact (Kd.C_below HR313.out HB.out) | (with_reducible refine Kd.C_alloc ?_ _) | (with_reducible refine Kd.C_drewN ?_ _) | (with_reducible refine Kd.C_drew ?_))); (case side2 => exact HC313.out); rintro e w' ⟨rfl, ⟨nd, rfl⟩⟩; refine ⟨_, rfl, ?_⟩; (try (rw [drewN_self wc]; generalize hq_ : World.drewN wc _ = wc; have n0_ : Aside0 (wc.heap[gb301]? = some (.cells #[.int .i64 0, .int .i64 0, .int .i64 0] 23 (0, 0))) := ⟨by rw [← hq_]; exact (by (with_reducible repeat (first | refine blk_drewN ?_ _ | refine blk_drew ?_ | refine blk_alloc ?_ _)); exact BK301.out)⟩; have n1_ : Aside0 (Below w.heap.size w wc) := ⟨by rw [← hq_]; exact (by repeat (first | (with_reducible first | exact HB.out | apply below_alloc | apply pw_below_drewN | apply below_drew1 | refine below_set ?_ GE301.out) | exact HB.out))⟩; clear BK301 HB hq_; have BK301 := n0_; have HB := n1_; clear n0_ n1_)); have q41 : (12 : Int) ≤ ((l0.length : Int) : Int) := of_decide_eq_true (by first | (with_reducible assumption) | assumption); obtain ⟨i041, hi041, _, hsz41, _⟩ := info_parts info5; have hroom41 : l0.length ≤ c0 := HC0.out; have hC41 : Kd.C (Kd.int .u8) _ A0 l0.length l0 := HR0.out; have hcut41 := cut_from (P := Try.prog) 25 5 .i64 Try.underlying25 hi041 1 hsz41 A0 l0.length c0 12 (by omega) q41; have hr41 := Kd.C_drop (m := (12 : Int).toNat) (c := c0) hC41 (by omega) hroom41; obtain ⟨A41, hA41⟩ : ∃ A1, A1 = (if c0 = (12 : Int).toNat then A0 else (A0 : Option Addr).map (·.add ((12 : Int).toNat * 1))) := ⟨_, rfl⟩; obtain ⟨c41, hc41⟩ : ∃ c1, c1 = c0 - (12 : Int).toNat := ⟨_, rfl⟩; have hy41 : y316.length = l0.length - (12 : Int).toNat := (by rw [Ny316.out, List.length_drop] <;> omega); rw [show (l0).drop (12 : Int).toNat = y316 from Ny316.out.symm] at hr41; replace hr41 : Kd.C (Kd.int .u8) _ A41 y316.length y316 := (by rw [hA41]; exact hr41); rw [← hy41, ← hA41, ← hc41] at hcut41; have HR319 := Aside0.mk hr41; have HC319 := Aside0.mk (show y316.length ≤ c41 from by rw [hy41, hc41]; exact Nat.sub_le_sub_right hroom41 _); clear hr41 hC41 hroom41 hi041 hsz41 hc41; have KY41 := Aside0.mk hy41; have KA41 := Aside0.mk hA41; clear hy41 hA41; replace q41 := eq_true q41) | ((with_reducible refine gate_callee (f := 40) rfl ?_); refine goesL_ (some 42) rfl rfl Try.func40 (by kernel_rfl) rfl #[.slice A41 y316.length c41] rfl (by (try simp only [List.map_toArray, List.map_cons, List.map_nil]); first | done | rfl | (simp only [List.length_drop, List.length_take]; rfl)) ?_; (with_reducible refine (wire_TakeFixed.calls _ _ y316 t320 t321 _ ?side1 ?side2 A15.out).mono ?_); (case side1 => repeat (first | exact (Kd.C_below HR319.out HB.out) | (with_reducible refine Kd.C_alloc ?_ _) | (with_reducible refine Kd.C_drewN ?_ _) | (with_reducible refine Kd.C_drew ?_))); (case side2 => exact HC319.out); rintro e w' ⟨rfl, ⟨nd, rfl⟩⟩; refine ⟨_, rfl, ?_⟩; (try (rw [drewN_self wc]; generalize hq_ : World.drewN wc _ = wc; have n0_ : Aside0 (wc.heap[gb301]? = some (.cells #[.int .i64 0, .int .i64 0, .int .i64 0] 23 (0, 0))) := ⟨by rw [← hq_]; exact (by (with_reducible repeat (first | refine blk_drewN ?_ _ | refine blk_drew ?_ | refine blk_alloc ?_ _)); exact BK301.out)⟩; have n1_ : Aside0 (Below w.heap.size w wc) := ⟨by rw [← hq_]; exact (by repeat (first | (with_reducible first | exact HB.out | apply below_alloc | apply pw_below_drewN | apply below_drew1 | refine below_set ?_ GE301.out) | exact HB.out))⟩; clear BK301 HB hq_; have BK301 := n0_; have HB := n1_; clear n0_ n1_)); have p322 : 0 ≤ (2 : Int) := (by omega); have q322 : 2 < (l0.length : Int) := of_decide_eq_true (by first | (with_reducible assumption) | assumption); obtain ⟨ad322, e322, hx322_0⟩ := Kd.at_int HR0.out 2 p322 q322; cases e322; (try simp only [show (2 : Int).toNat = 2 from rfl, Nat.reduceMul, Nat.reduceEqDiff, Go.Addr.add, ↓reduceIte] at hx322_0); have qi322 : (2 < l0.length) = True := eq_true (by omega); (try rw [show ((2 : Int)).toNat = 2 from rfl] at hx322_0); replace hx322_0 := (HB.out.cell (World.block_lt_of_cell? w _ hx322_0)).trans hx322_0; replace p322 := eq_true p322; replace q322 := eq_true q322) | ((with_reducible refine gate_dst (N := 10) rfl ?_); refine box_event ?hg (N := 10) ?hd (cs := #[.int .i64 0, .int .i64 0, .int .i64 0]) (t := 23) ?hr ?_; (case hd => rfl); (case hg => rfl); (case hr => first | (go_simp; done) | (go_simp; rfl)); intro gb323 hg w42 hbox hb; have n0_ := Aside0.mk (blk_below (g := gb301) (o := .cells #[.int .i64 0, .int .i64 0, .int .i64 0] 23 (0, 0)) (by (with_reducible repeat (first | refine blk_drewN ?_ _ | refine blk_drew ?_ | refine blk_alloc ?_ _)); exact BK301.out) hb); have n1_ := Aside0.mk (below_step (by repeat (first | (with_reducible first | exact HB.out | apply below_alloc | apply pw_below_drewN | apply below_drew1 | refine below_set ?_ GE301.out) | exact HB.out)) hb); have n2_ := Aside0.mk (hbox); have n3_ := Aside0.mk ((by rw [hg]; exact (below_size (by repeat (first | (with_reducible first | exact HB.out | apply below_alloc | apply pw_below_drewN | apply below_drew1 | refine below_set ?_ GE301.out) | exact HB.out))) : w.heap.size ≤ gb323)); have n4_ := Aside0.mk ((by rw [hg]; exact (below_size (by repeat (first | (with_reducible first | exact HB.out | apply below_alloc | apply pw_below_drewN | apply below_drew1 | refine below_set ?_ GE301.out) | exact HB.out))) : w.heap.size ≤ gb323)); have n5_ := Aside0.mk ((by rw [hg]; exact Nat.ne_of_lt (blk_lt (g := gb301) (o := .cells #[.int .i64 0, .int .i64 0, .int .i64 0] 23 (0, 0)) (by (with_reducible repeat (first | refine blk_drewN ?_ _ | refine blk_drew ?_ | refine blk_alloc ?_ _)); exact BK301.out)) : gb301 ≠ gb323)); have n6_ := Aside0.mk ((by rw [hg]; exact Nat.ne_of_gt (blk_lt (g := gb301) (o := .cells #[.int .i64 0, .int .i64 0, .int .i64 0] 23 (0, 0)) (by (with_reducible repeat (first | refine blk_drewN ?_ _ | refine blk_drew ?_ | refine blk_alloc ?_ _)); exact BK301.out)) : gb323 ≠ gb301)); clear BK301; clear HB; have BK301 := n0_; have HB := n1_; have BK323 := n2_; have GW323 := n3_; have GE323 := n4_; have NB301_323 := n5_; have NB323_301 := n6_; clear n0_ n1_ n2_ n3_ n4_ n5_ n6_; clear hb hbox hg; have hnb43 := NB323_301.out; have hnc43 := NB301_323.out; have hcz44_0 : w42.cell? ⟨gb323, 0, none⟩ = some (.int .i64 0) := (blk_cell BK323.out 0).trans rfl; have hcz44_1 : w42.cell? ⟨gb323, 1, none⟩ = some (.int .i64 0) := (blk_cell BK323.out 1).trans rfl; have hcz44_2 : w42.cell? ⟨gb323, 2, none⟩ = some (.int .i64 0) := (blk_cell BK323.out 2).trans rfl; have hfz44_0 := blk_frozen BK323.out 0; have hfz44_1 := blk_frozen BK323.out 1; have hfz44_2 := blk_frozen BK323.out 2))
                        have n0_ : Aside0 ((((w42.setCell ⟨gb323, 0, none⟩ (.int .i64 (wrap64 (rd l0 2)))).setCell ⟨gb323, 1, none⟩ (.int .i64 (wrap64 (t308)))).setCell ⟨gb323, 2, none⟩ (.int .i64 (Go.bits .or .i64 (wrap64 ((wrap64 (t320)) * 4294967296)) (wrap64 (t314))))).heap[gb301]? = some (.cells #[.int .i64 0, .int .i64 0, .int .i64 0] 23 (0, 0))) := ⟨by (with_reducible repeat (first | refine blk_drewN ?_ _ | refine blk_drew ?_ | refine blk_alloc ?_ _)); refine blk_far ?_ NB301_323.out _; (with_reducible repeat (first | refine blk_drewN ?_ _ | refine blk_drew ?_ | refine blk_alloc ?_ _)); refine blk_far ?_ NB301_323.out _; (with_reducible repeat (first | refine blk_drewN ?_ _ | refine blk_drew ?_ | refine blk_alloc ?_ _)); refine blk_far ?_ NB301_323.out _; (with_reducible repeat (first | refine blk_drewN ?_ _ | refine blk_drew ?_ | refine blk_alloc ?_ _)); exact BK301.out⟩
                        have n1_ : Aside0 ((((w42.setCell ⟨gb323, 0, none⟩ (.int .i64 (wrap64 (rd l0 2)))).setCell ⟨gb323, 1, none⟩ (.int .i64 (wrap64 (t308)))).setCell ⟨gb323, 2, none⟩ (.int .i64 (Go.bits .or .i64 (wrap64 ((wrap64 (t320)) * 4294967296)) (wrap64 (t314))))).heap[gb323]? = some (.cells #[.int .i64 (wrap64 (rd l0 2)), .int .i64 (wrap64 (t308)), .int .i64 (Go.bits .or .i64 (wrap64 ((wrap64 (t320)) * 4294967296)) (wrap64 (t314)))] 23 (0, 0))) := ⟨by (with_reducible repeat (first | refine blk_drewN ?_ _ | refine blk_drew ?_ | refine blk_alloc ?_ _)); refine blk_put (cs := #[.int .i64 (wrap64 (rd l0 2)), .int .i64 (wrap64 (t308)), .int .i64 0]) ?_ 2 _ rfl; (with_reducible repeat (first | refine blk_drewN ?_ _ | refine blk_drew ?_ | refine blk_alloc ?_ _)); refine blk_put (cs := #[.int .i64 (wrap64 (rd l0 2)), .int .i64 0, .int .i64 0]) ?_ 1 _ rfl; (with_reducible repeat (first | refine blk_drewN ?_ _ | refine blk_drew ?_ | refine blk_alloc ?_ _)); refine blk_put (cs := #[.int .i64 0, .int .i64 0, .int .i64 0]) ?_ 0 _ rfl; (with_reducible repeat (first | refine blk_drewN ?_ _ | refine blk_drew ?_ | refine blk_alloc ?_ _)); exact BK323.out⟩
                        have n2_ : Aside0 (Below w.heap.size w (((w42.setCell ⟨gb323, 0, none⟩ (.int .i64 (wrap64 (rd l0 2)))).setCell ⟨gb323, 1, none⟩ (.int .i64 (wrap64 (t308)))).setCell ⟨gb323, 2, none⟩ (.int .i64 (Go.bits .or .i64 (wrap64 ((wrap64 (t320)) * 4294967296)) (wrap64 (t314)))))) := ⟨by repeat (first | (with_reducible first | exact HB.out | apply below_alloc | apply pw_below_drewN | apply below_drew1 | refine below_set ?_ GE301.out | refine below_set ?_ GE323.out) | exact HB.out)⟩
                        (try clear BK301)
                        (try clear BK323)
                        (try clear HB)
                        (try simp only [IntKind.wrap_u8, IntKind.wrap_u32])
                        generalize (((w42.setCell ⟨gb323, 0, none⟩ (.int .i64 (wrap64 (rd l0 2)))).setCell ⟨gb323, 1, none⟩ (.int .i64 (wrap64 (t308)))).setCell ⟨gb323, 2, none⟩ (.int .i64 (Go.bits .or .i64 (wrap64 ((wrap64 (t320)) * 4294967296)) (wrap64 (t314))))) = w45 at n0_ n1_ n2_ ⊢
                        have BK301 := n0_
                        have BK323 := n1_
                        have HB := n2_
                        clear n0_ n1_ n2_
                        (try (rw [drewN_self w45]; generalize hq_ : World.drewN w45 _ = w45; have n0_ : Aside0 (w45.heap[gb301]? = some (.cells #[.int .i64 0, .int .i64 0, .int .i64 0] 23 (0, 0))) := ⟨by rw [← hq_]; exact (by (with_reducible repeat (first | refine blk_drewN ?_ _ | refine blk_drew ?_ | refine blk_alloc ?_ _)); exact BK301.out)⟩; have n1_ : Aside0 (w45.heap[gb323]? = some (.cells #[.int .i64 (wrap64 (rd l0 2)), .int .i64 (wrap64 (t308)), .int .i64 (Go.bits .or .i64 (wrap64 ((wrap64 (t320)) * 4294967296)) (wrap64 (t314)))] 23 (0, 0))) := ⟨by rw [← hq_]; exact (by (with_reducible repeat (first | refine blk_drewN ?_ _ | refine blk_drew ?_ | refine blk_alloc ?_ _)); exact BK323.out)⟩; have n2_ : Aside0 (Below w.heap.size w w45) := ⟨by rw [← hq_]; exact (by repeat (first | (with_reducible first | exact HB.out | apply below_alloc | apply pw_below_drewN | apply below_drew1 | refine below_set ?_ GE301.out | refine below_set ?_ GE323.out) | exact HB.out))⟩; clear BK301 BK323 HB hq_; have BK301 := n0_; have BK323 := n1_; have HB := n2_; clear n0_ n1_ n2_))
                        have n0_ := Aside0.mk (blk_drew BK301.out)
                        have n1_ := Aside0.mk (blk_drew BK323.out)
                        have n2_ := Aside0.mk (below_drew1 HB.out)
                        clear BK301
                        clear BK323
                        clear HB
                        have BK301 := n0_
                        have BK323 := n1_
                        have HB := n2_
                        clear n0_ n1_ n2_
                        have p325 : 0 ≤ (3 : Int) := (by omega)
                        have q325 : 3 < (l0.length : Int) := of_decide_eq_true (by first | (with_reducible assumption) | assumption)
                        obtain ⟨ad325, e325, hx325_0⟩ := Kd.at_int HR0.out 3 p325 q325
                        have hw325_0 := hx325_0
                        (try rw [show ((3 : Int)).toNat = 3 from rfl] at hw325_0)
                        (try rw [show 3 * 1 = 3 from rfl] at hw325_0)
                        (try simp only [Nat.reduceMul, Nat.reduceEqDiff, Go.Addr.add, ↓reduceIte] at hw325_0)
                        obtain rfl : ad322 = ad325 := (by injection e325)
                        (try simp only [show (3 : Int).toNat = 3 from rfl, Nat.reduceMul, Nat.reduceEqDiff, Go.Addr.add, ↓reduceIte] at hx325_0)
                        have qi325 : (3 < l0.length) = True := eq_true (by omega)
                        (try rw [show ((3 : Int)).toNat = 3 from rfl] at hx325_0)
                        replace hx325_0 := (HB.out.cell (World.block_lt_of_cell? w _ hx325_0)).trans hx325_0
                        replace p325 := eq_true p325
                        replace q325 := eq_true q325
                        refine start_ (n := 12) (S := fun w' => w'.cell? ⟨gb323, 0, none⟩ = some (.int .i64 (wrap64 (rd l0 2))) ∧ w'.cell? ⟨gb323, 1, none⟩ = some (.int .i64 (wrap64 (t308))) ∧ w'.cell? ⟨gb323, 2, none⟩ = some (.int .i64 (Go.bits .or .i64 (wrap64 ((wrap64 (t320)) * 4294967296)) (wrap64 (t314)))) ∧ w'.cell? ⟨ad322.block, ad322.off + 3, none⟩ = some (.int .u8 (rd l0 3))) (ds := []) #[false, false, false, false, false, false, false, false, false, false, false, false] (by kernel_rfl) rfl rfl ⟨(blk_cell BK323.out 0).trans rfl, (blk_cell BK323.out 1).trans rfl, (blk_cell BK323.out 2).trans rfl, ((HB.out.cell (World.block_lt_of_cell? w _ hw325_0)).trans hw325_0)⟩ (fun hHeld => ?_); refine with_tabW mark_Read.tab9 mark_Read.bits9 (fun HT_ HW_ => ?_)
                        generalize w45.drew = w46 at BK301 BK323 HB hx325_0 hHeld ⊢
                        refine take_ (i := 0) (N := some 61) (v := ?_) (a' := ?_) #[true, false, false, false, false, false, false, false, false, false, false, false] rfl rfl (take_ofW HT_.out HW_.out (by kernel_rfl)) (fun _ _ _ h => h) (Or.inl ⟨by rfl, ?_⟩) hHeld ?_ ?_
                        rotate_left
                        · rintro w' ⟨s0, s1, s2, s3⟩
                          go_simp
                          with_reducible rfl
                        rotate_left
                        · simp only [Act.put, List.setIfInBounds_toArray, List.set_cons_zero, List.set_cons_succ, i64_w, i32_w]
                          rfl
                        refine one_ (i := 1) (N := some 62) #[true, true, false, false, false, false, false, false, false, false, false, false] rfl rfl (one_of HT_.out (by kernel_rfl)) (by decide) (fun K hK => ?_)
                        refine goes_ Try.func20 (by kernel_rfl) rfl #[.agg #[.int .i64 (wrap64 (rd l0 2)), .int .i64 (wrap64 (t308)), .int .i64 (Go.bits .or .i64 (wrap64 ((wrap64 (t320)) * 4294967296)) (wrap64 (t314)))]] (by rfl) rfl rfl (by (try simp only [List.map_toArray, List.map_cons, List.map_nil]); first | done | rfl | (simp only [List.length_drop, List.length_take]; rfl)) ?_
                        with_reducible refine (mark_Right.calls (wrap64 (rd l0 2)) (wrap64 (t308)) (Go.bits .or .i64 (wrap64 ((wrap64 (t320)) * 4294967296)) (wrap64 (t314))) true _ A22.out).mono ?_
                        rintro e w47 ⟨rfl, hb⟩
                        refine ⟨_, rfl, ?_⟩
                        have n0_ := Aside0.mk (blk_below (g := gb301) (o := .cells #[.int .i64 0, .int .i64 0, .int .i64 0] 23 (0, 0)) (by (with_reducible repeat (first | refine blk_drewN ?_ _ | refine blk_drew ?_ | refine blk_alloc ?_ _)); exact BK301.out) hb)
                        have n1_ := Aside0.mk (blk_below (g := gb323) (o := .cells #[.int .i64 (wrap64 (rd l0 2)), .int .i64 (wrap64 (t308)), .int .i64 (Go.bits .or .i64 (wrap64 ((wrap64 (t320)) * 4294967296)) (wrap64 (t314)))] 23 (0, 0)) (by (with_reducible repeat (first | refine blk_drewN ?_ _ | refine blk_drew ?_ | refine blk_alloc ?_ _)); exact BK323.out) hb)
                        have n2_ := Aside0.mk (below_step (by repeat (first | (with_reducible first | exact HB.out | apply below_alloc | apply pw_below_drewN | apply below_drew1 | refine below_set ?_ GE301.out | refine below_set ?_ GE323.out) | exact HB.out)) hb)
                        clear BK301
                        clear BK323
                        clear HB
                        have BK301 := n0_
                        have BK323 := n1_
                        have HB := n2_
                        clear n0_ n1_ n2_
                        (try clear hb)
                        (try clear hb2)
                        (try clear hk)
                        (try clear hi)
                        refine hK.out _ _ ⟨(blk_cell BK323.out 0).trans rfl, (blk_cell BK323.out 1).trans rfl, (blk_cell BK323.out 2).trans rfl, ((HB.out.cell (World.block_lt_of_cell? w _ hw325_0)).trans hw325_0)⟩ (fun hHeld => ?_)
                        clear hK K
                        refine norm_ (a' := ?_) ?_ ?_
                        rotate_left
                        · show Act.put _ (some 62) _ = _
                          simp only [Act.put, List.setIfInBounds_toArray, List.set_cons_zero, List.set_cons_succ, i64_w, i32_w]
                          rfl
                        refine pure_ (i := 2) (N := some 63) (v := ?_) (a' := ?_) #[true, true, true, false, false, false, false, false, false, false, false, false] rfl rfl (any_of HT_.out (by kernel_rfl)) (fun _ _ _ h => h) (Or.inl ⟨by rfl, ?_⟩) ?_ ?_
                        rotate_left
                        · intro w'
                          go_simp
                          with_reducible rfl
                        rotate_left
                        · simp only [Act.put, List.setIfInBounds_toArray, List.set_cons_zero, List.set_cons_succ, i64_w, i32_w]
                          rfl
                        refine pure_ (i := 3) (N := some 64) (v := ?_) (a' := ?_) #[true, true, true, true, false, false, false, false, false, false, false, false] rfl rfl (any_of HT_.out (by kernel_rfl)) (fun _ _ _ h => h) (Or.inl ⟨by rfl, ?_⟩) ?_ ?_
                        rotate_left
                        · intro w'
                          go_simp
                          with_reducible rfl
                        rotate_left
                        · simp only [Act.put, List.setIfInBounds_toArray, List.set_cons_zero, List.set_cons_succ, i64_w, i32_w]
                          rfl
                        refine pure_ (i := 4) (N := some 65) (v := ?_) (a' := ?_) #[true, true, true, true, true, false, false, false, false, false, false, false] rfl rfl (any_of HT_.out (by kernel_rfl)) (fun _ _ _ h => h) (Or.inl ⟨by rfl, ?_⟩) ?_ ?_
                        rotate_left
                        · intro w'
                          go_simp
                          with_reducible rfl
                        rotate_left
                        · simp only [Act.put, List.setIfInBounds_toArray, List.set_cons_zero, List.set_cons_succ, i64_w, i32_w]
                          rfl
                        refine pure_ (i := 5) (N := some 66) (v := ?_) (a' := ?_) #[true, true, true, true, true, true, false, false, false, false, false, false] rfl rfl (any_of HT_.out (by kernel_rfl)) (fun _ _ _ h => h) (Or.inl ⟨by rfl, ?_⟩) ?_ ?_
                        rotate_left
                        · intro w'
                          go_simp
                          with_reducible rfl
                        rotate_left
                        · simp only [Act.put, List.setIfInBounds_toArray, List.set_cons_zero, List.set_cons_succ, i64_w, i32_w]
                          rfl
                        refine pure_ (i := 7) (N := some 68) (v := ?_) (a' := ?_) #[true, true, true, true, true, true, false, true, false, false, false, false] rfl rfl (any_of HT_.out (by kernel_rfl)) (fun _ _ _ h => h) (Or.inl ⟨by rfl, ?_⟩) ?_ ?_
                        rotate_left
                        · intro w'
                          go_simp
                          with_reducible rfl
                        rotate_left
                        · simp only [Act.put, List.setIfInBounds_toArray, List.set_cons_zero, List.set_cons_succ, i64_w, i32_w]
                          rfl
                        refine take_ (i := 6) (N := some 67) (v := ?_) (a' := ?_) #[true, true, true, true, true, true, true, true, false, false, false, false] rfl rfl (take_ofW HT_.out HW_.out (by kernel_rfl)) (fun _ _ _ h => h) (Or.inl ⟨by rfl, ?_⟩) hHeld ?_ ?_
                        rotate_left
                        · rintro w' ⟨s0, s1, s2, s3⟩
                          go_simp
                          with_reducible rfl
                        rotate_left
                        · simp only [Act.put, List.setIfInBounds_toArray, List.set_cons_zero, List.set_cons_succ, i64_w, i32_w]
                          rfl
                        refine take_ (i := 8) (N := some 69) (v := ?_) (a' := ?_) #[true, true, true, true, true, true, true, true, true, false, false, false] rfl rfl (take_ofW HT_.out HW_.out (by kernel_rfl)) (fun _ _ _ h => h) (Or.inl ⟨by rfl, ?_⟩) hHeld ?_ ?_
                        rotate_left
                        · rintro w' ⟨s0, s1, s2, s3⟩
                          go_simp
                          with_reducible rfl
                        rotate_left
                        · simp only [Act.put, List.setIfInBounds_toArray, List.set_cons_zero, List.set_cons_succ, i64_w, i32_w]
                          rfl
                        refine one_ (i := 9) (N := some 70) #[true, true, true, true, true, true, true, true, true, true, false, false] rfl rfl (one_of HT_.out (by kernel_rfl)) (by decide) (fun K hK => ?_)
                        refine goes_ Try.func32 (by kernel_rfl) rfl #[.int .i64 (wrap64 (t308))] (by rfl) rfl rfl (by (try simp only [List.map_toArray, List.map_cons, List.map_nil]); first | done | rfl | (simp only [List.length_drop, List.length_take]; rfl)) ?_
                        with_reducible refine (mark_letter.calls (wrap64 (t308)) t326 _ A25.out).mono ?_
                        rintro e w48 ⟨rfl, hb⟩
                        refine ⟨_, rfl, ?_⟩
                        have n0_ := Aside0.mk (blk_below (g := gb301) (o := .cells #[.int .i64 0, .int .i64 0, .int .i64 0] 23 (0, 0)) (by (with_reducible repeat (first | refine blk_drewN ?_ _ | refine blk_drew ?_ | refine blk_alloc ?_ _)); exact BK301.out) hb)
                        have n1_ := Aside0.mk (blk_below (g := gb323) (o := .cells #[.int .i64 (wrap64 (rd l0 2)), .int .i64 (wrap64 (t308)), .int .i64 (Go.bits .or .i64 (wrap64 ((wrap64 (t320)) * 4294967296)) (wrap64 (t314)))] 23 (0, 0)) (by (with_reducible repeat (first | refine blk_drewN ?_ _ | refine blk_drew ?_ | refine blk_alloc ?_ _)); exact BK323.out) hb)
                        have n2_ := Aside0.mk (below_step (by repeat (first | (with_reducible first | exact HB.out | apply below_alloc | apply pw_below_drewN | apply below_drew1 | refine below_set ?_ GE301.out | refine below_set ?_ GE323.out) | exact HB.out)) hb)
                        clear BK301
                        clear BK323
                        clear HB
                        have BK301 := n0_
                        have BK323 := n1_
                        have HB := n2_
                        clear n0_ n1_ n2_
                        (try clear hb)
                        (try clear hb2)
                        (try clear hk)
                        (try clear hi)
                        refine hK.out _ _ ⟨(blk_cell BK323.out 0).trans rfl, (blk_cell BK323.out 1).trans rfl, (blk_cell BK323.out 2).trans rfl, ((HB.out.cell (World.block_lt_of_cell? w _ hw325_0)).trans hw325_0)⟩ (fun hHeld => ?_)
                        clear hK K
                        refine norm_ (a' := ?_) ?_ ?_
                        rotate_left
                        · show Act.put _ (some 70) _ = _
                          simp only [Act.put, List.setIfInBounds_toArray, List.set_cons_zero, List.set_cons_succ, i64_w, i32_w]
                          rfl
                        refine pure_ (i := 10) (N := some 71) (v := ?_) (a' := ?_) #[true, true, true, true, true, true, true, true, true, true, true, false] rfl rfl (any_of HT_.out (by kernel_rfl)) (fun _ _ _ h => h) (Or.inl ⟨by rfl, ?_⟩) ?_ ?_
                        rotate_left
                        · intro w'
                          go_simp
                          with_reducible rfl
                        rotate_left
                        · simp only [Act.put, List.setIfInBounds_toArray, List.set_cons_zero, List.set_cons_succ, i64_w, i32_w]
                          rfl
                        refine pure_ (i := 11) (N := some 72) (v := ?_) (a' := ?_) #[true, true, true, true, true, true, true, true, true, true, true, true] rfl rfl (any_of HT_.out (by kernel_rfl)) (fun _ _ _ h => h) (Or.inl ⟨by rfl, ?_⟩) ?_ ?_
                        rotate_left
                        · intro w'
                          go_simp
                          with_reducible rfl
                        rotate_left
                        · simp only [Act.put, List.setIfInBounds_toArray, List.set_cons_zero, List.set_cons_succ, i64_w, i32_w]
                          rfl
                        refine done_ (done_of HT_.out (by kernel_rfl)) ?_
                        have hcz49_0 : w48.cell? ⟨gb301, 0, none⟩ = some (.int .i64 0) := (blk_cell BK301.out 0).trans rfl
                        have hcz49_1 : w48.cell? ⟨gb301, 1, none⟩ = some (.int .i64 0) := (blk_cell BK301.out 1).trans rfl
                        have hcz49_2 : w48.cell? ⟨gb301, 2, none⟩ = some (.int .i64 0) := (blk_cell BK301.out 2).trans rfl
                        have hfz49_0 := blk_frozen BK301.out 0
                        have hfz49_1 := blk_frozen BK301.out 1
                        have hfz49_2 := blk_frozen BK301.out 2
                        try go_wp2
                        refine bodyPost_ret (results_ct rfl _ _ gb301 23 #[.int .i64 0, .int .i64 0, .int .i64 0] (0, 0) _ rfl (by (with_reducible repeat (first | refine blk_drewN ?_ _ | refine blk_drew ?_ | refine blk_alloc ?_ _)); refine blk_put (cs := #[.int .i64 0, .int .i64 0, .int .i64 0]) ?_ 2 _ rfl; (with_reducible repeat (first | refine blk_drewN ?_ _ | refine blk_drew ?_ | refine blk_alloc ?_ _)); refine blk_put (cs := #[.int .i64 0, .int .i64 0, .int .i64 0]) ?_ 1 _ rfl; (with_reducible repeat (first | refine blk_drewN ?_ _ | refine blk_drew ?_ | refine blk_alloc ?_ _)); refine blk_put (cs := #[.int .i64 0, .int .i64 0, .int .i64 0]) ?_ 0 _ rfl; (with_reducible repeat (first | refine blk_drewN ?_ _ | refine blk_drew ?_ | refine blk_alloc ?_ _)); exact BK301.out) Try.underlying23 rfl (by kernel_rfl)) rfl ?_
                        exact ⟨by first | rfl | (simp [errW_none, errW_some] <;> rfl) | (simp [*, errW_none, errW_some] <;> rfl), by repeat (first | (with_reducible first | exact HB.out | apply below_alloc | apply pw_below_drewN | apply below_drew1 | refine below_set ?_ GE301.out | refine below_set ?_ GE323.out) | exact HB.out)⟩
                    · rw [if_neg c24] at H
                      exact absurd H (by simp)
                  · replace c23 := Bool.eq_false_iff.mpr c23
                    subst c23
                    have H1 : (some (0, 0, 0, 3)) = some (r1, r2, r3, r4) := by rw [if_neg (show ¬ (false = true) by decide)] at H; exact H
                    clear H
                    have H := H1
                    clear H1
                    simp only [Option.some.injEq, Prod.mk.injEq] at H
                    obtain ⟨rfl, rfl, rfl, rfl⟩ := H
                    have q50 : (4 : Int) ≤ ((l0.length : Int) : Int) := of_decide_eq_true (by first | (with_reducible assumption) | assumption)
                    obtain ⟨i050, hi050, _, hsz50, _⟩ := info_parts info5
                    have hroom50 : l0.length ≤ c0 := HC0.out
                    have hC50 : Kd.C (Kd.int .u8) _ A0 l0.length l0 := HR0.out
                    have hcut50 := cut_from (P := Try.prog) 25 5 .i64 Try.underlying25 hi050 1 hsz50 A0 l0.length c0 4 (by omega) q50
                    have hr50 := Kd.C_drop (m := (4 : Int).toNat) (c := c0) hC50 (by omega) hroom50
                    obtain ⟨A50, hA50⟩ : ∃ A1, A1 = (if c0 = (4 : Int).toNat then A0 else (A0 : Option Addr).map (·.add ((4 : Int).toNat * 1))) := ⟨_, rfl⟩
                    obtain ⟨c50, hc50⟩ : ∃ c1, c1 = c0 - (4 : Int).toNat := ⟨_, rfl⟩
                    have hy50 : y304.length = l0.length - (4 : Int).toNat := (by rw [Ny304.out, List.length_drop] <;> omega)
                    rw [show (l0).drop (4 : Int).toNat = y304 from Ny304.out.symm] at hr50
                    replace hr50 : Kd.C (Kd.int .u8) _ A50 y304.length y304 := (by rw [hA50]; exact hr50)
                    rw [← hy50, ← hA50, ← hc50] at hcut50
                    have HR307 := Aside0.mk hr50
                    have HC307 := Aside0.mk (show y304.length ≤ c50 from by rw [hy50, hc50]; exact Nat.sub_le_sub_right hroom50 _)
                    clear hr50 hC50 hroom50 hi050 hsz50 hc50
                    have KY50 := Aside0.mk hy50
                    have KA50 := Aside0.mk hA50
                    clear hy50 hA50
                    replace q50 := eq_true q50
                    try go_wp2_with (first | ((with_reducible refine gate_callee (f := 40) rfl ?_); refine goesL_ (some 30) rfl rfl Try.func40 (by kernel_rfl) rfl #[.slice A50 y304.length c50] rfl (by (try simp only [List.map_toArray, List.map_cons, List.map_nil]); first | done | rfl | (simp only [List.length_drop, List.length_take]; rfl)) ?_; (with_reducible refine (wire_TakeFixed.calls _ _ y304 t308 t309 _ ?side1 ?side2 A11.out).mono ?_); (case side1 => repeat (first | exact (Kd.C_below HR307.out HB.out) | (with_reducible refine Kd.C_alloc ?_ _) | (with_reducible refine Kd.C_drewN ?_ _) | (with_reducible refine Kd.C_drew ?_))); (case side2 => exact HC307.out); rintro e w' ⟨rfl, ⟨nd, rfl⟩⟩; refine ⟨_, rfl, ?_⟩; (try (rw [drewN_self wc]; generalize hq_ : World.drewN wc _ = wc; have n0_ : Aside0 (wc.heap[gb301]? = some (.cells #[.int .i64 0, .int .i64 0, .int .i64 0] 23 (0, 0))) := ⟨by rw [← hq_]; exact (by (with_reducible repeat (first | refine blk_drewN ?_ _ | refine blk_drew ?_ | refine blk_alloc ?_ _)); exact BK301.out)⟩; have n1_ : Aside0 (Below w.heap.size w wc) := ⟨by rw [← hq_]; exact (by repeat (first | (with_reducible first | exact HB.out | apply below_alloc | apply pw_below_drewN | apply below_drew1 | refine below_set ?_ GE301.out) | exact HB.out))⟩; clear BK301 HB hq_; have BK301 := n0_; have HB := n1_; clear n0_ n1_)); have q51 : (8 : Int) ≤ ((l0.length : Int) : Int) := of_decide_eq_true (by first | (with_reducible assumption) | assumption); obtain ⟨i051, hi051, _, hsz51, _⟩ := info_parts info5; have hroom51 : l0.length ≤ c0 := HC0.out; have hC51 : Kd.C (Kd.int .u8) _ A0 l0.length l0 := HR0.out; have hcut51 := cut_from (P := Try.prog) 25 5 .i64 Try.underlying25 hi051 1 hsz51 A0 l0.length c0 8 (by omega) q51; have hr51 := Kd.C_drop (m := (8 : Int).toNat) (c := c0) hC51 (by omega) hroom51; obtain ⟨A51, hA51⟩ : ∃ A1, A1 = (if c0 = (8 : Int).toNat then A0 else (A0 : Option Addr).map (·.add ((8 : Int).toNat * 1))) := ⟨_, rfl⟩; obtain ⟨c51, hc51⟩ : ∃ c1, c1 = c0 - (8 : Int).toNat := ⟨_, rfl⟩; have hy51 : y310.length = l0.length - (8 : Int).toNat := (by rw [Ny310.out, List.length_drop] <;> omega); rw [show (l0).drop (8 : Int).toNat = y310 from Ny310.out.symm] at hr51; replace hr51 : Kd.C (Kd.int .u8) _ A51 y310.length y310 := (by rw [hA51]; exact hr51); rw [← hy51, ← hA51, ← hc51] at hcut51; have HR313 := Aside0.mk hr51; have HC313 := Aside0.mk (show y310.length ≤ c51 from by rw [hy51, hc51]; exact Nat.sub_le_sub_right hroom51 _); clear hr51 hC51 hroom51 hi051 hsz51 hc51; have KY51 := Aside0.mk hy51; have KA51 := Aside0.mk hA51; clear hy51 hA51; replace q51 := eq_true q51) | ((with_reducible refine gate_callee (f := 40) rfl ?_); refine goesL_ (some 36) rfl rfl Try.func40 (by kernel_rfl) rfl #[.slice A51 y310.length c51] rfl (by (try simp only [List.map_toArray, List.map_cons, List.map_nil]); first | done | rfl | (simp only [List.length_drop, List.length_take]; rfl)) ?_; (with_reducible refine (wire_TakeFixed.calls _ _ y310 t314 t315 _ ?side1 ?side2 A13.out).mono ?_); (case side1 => repeat (first | exact (Kd.C_below HR313.out HB.out) | (with_reducible refine Kd.C_alloc ?_ _) | (with_reducible refine Kd.C_drewN ?_ _) | (with_reducible refine Kd.C_drew ?_))); (case side2 => exact HC313.out); rintro e w' ⟨rfl, ⟨nd, rfl⟩⟩; refine ⟨_, rfl, ?_⟩; (try (rw [drewN_self wc]; generalize hq_ : World.drewN wc _ = wc; have n0_ : Aside0 (wc.heap[gb301]? = some (.cells #[.int .i64 0, .int .i64 0, .int .i64 0] 23 (0, 0))) := ⟨by rw [← hq_]; exact (by (with_reducible repeat (first | refine blk_drewN ?_ _ | refine blk_drew ?_ | refine blk_alloc ?_ _)); exact BK301.out)⟩; have n1_ : Aside0 (Below w.heap.size w wc) := ⟨by rw [← hq_]; exact (by repeat (first | (with_reducible first | exact HB.out | apply below_alloc | apply pw_below_drewN | apply below_drew1 | refine below_set ?_ GE301.out) | exact HB.out))⟩; clear BK301 HB hq_; have BK301 := n0_; have HB := n1_; clear n0_ n1_)); have q52 : (12 : Int) ≤ ((l0.length : Int) : Int) := of_decide_eq_true (by first | (with_reducible assumption) | assumption); obtain ⟨i052, hi052, _, hsz52, _⟩ := info_parts info5; have hroom52 : l0.length ≤ c0 := HC0.out; have hC52 : Kd.C (Kd.int .u8) _ A0 l0.length l0 := HR0.out; have hcut52 := cut_from (P := Try.prog) 25 5 .i64 Try.underlying25 hi052 1 hsz52 A0 l0.length c0 12 (by omega) q52; have hr52 := Kd.C_drop (m := (12 : Int).toNat) (c := c0) hC52 (by omega) hroom52; obtain ⟨A52, hA52⟩ : ∃ A1, A1 = (if c0 = (12 : Int).toNat then A0 else (A0 : Option Addr).map (·.add ((12 : Int).toNat * 1))) := ⟨_, rfl⟩; obtain ⟨c52, hc52⟩ : ∃ c1, c1 = c0 - (12 : Int).toNat := ⟨_, rfl⟩; have hy52 : y316.length = l0.length - (12 : Int).toNat := (by rw [Ny316.out, List.length_drop] <;> omega); rw [show (l0).drop (12 : Int).toNat = y316 from Ny316.out.symm] at hr52; replace hr52 : Kd.C (Kd.int .u8) _ A52 y316.length y316 := (by rw [hA52]; exact hr52); rw [← hy52, ← hA52, ← hc52] at hcut52; have HR319 := Aside0.mk hr52; have HC319 := Aside0.mk (show y316.length ≤ c52 from by rw [hy52, hc52]; exact Nat.sub_le_sub_right hroom52 _); clear hr52 hC52 hroom52 hi052 hsz52 hc52; have KY52 := Aside0.mk hy52; have KA52 := Aside0.mk hA52; clear hy52 hA52; replace q52 := eq_true q52) | ((with_reducible refine gate_callee (f := 40) rfl ?_); refine goesL_ (some 42) rfl rfl Try.func40 (by kernel_rfl) rfl #[.slice A52 y316.length c52] rfl (by (try simp only [List.map_toArray, List.map_cons, List.map_nil]); first | done | rfl | (simp only [List.length_drop, List.length_take]; rfl)) ?_; (with_reducible refine (wire_TakeFixed.calls _ _ y316 t320 t321 _ ?side1 ?side2 A15.out).mono ?_); (case side1 => repeat (first | exact (Kd.C_below HR319.out HB.out) | (with_reducible refine Kd.C_alloc ?_ _) | (with_reducible refine Kd.C_drewN ?_ _) | (with_reducible refine Kd.C_drew ?_))); (case side2 => exact HC319.out); rintro e w' ⟨rfl, ⟨nd, rfl⟩⟩; refine ⟨_, rfl, ?_⟩; (try (rw [drewN_self wc]; generalize hq_ : World.drewN wc _ = wc; have n0_ : Aside0 (wc.heap[gb301]? = some (.cells #[.int .i64 0, .int .i64 0, .int .i64 0] 23 (0, 0))) := ⟨by rw [← hq_]; exact (by (with_reducible repeat (first | refine blk_drewN ?_ _ | refine blk_drew ?_ | refine blk_alloc ?_ _)); exact BK301.out)⟩; have n1_ : Aside0 (Below w.heap.size w wc) := ⟨by rw [← hq_]; exact (by repeat (first | (with_reducible first | exact HB.out | apply below_alloc | apply pw_below_drewN | apply below_drew1 | refine below_set ?_ GE301.out) | exact HB.out))⟩; clear BK301 HB hq_; have BK301 := n0_; have HB := n1_; clear n0_ n1_)); have p322 : 0 ≤ (2 : Int) := (by omega); have q322 : 2 < (l0.length : Int) := of_decide_eq_true (by first | (with_reducible assumption) | assumption); obtain ⟨ad322, e322, hx322_0⟩ := Kd.at_int HR0.out 2 p322 q322; cases e322; (try simp only [show (2 : Int).toNat = 2 from rfl, Nat.reduceMul, Nat.reduceEqDiff, Go.Addr.add, ↓reduceIte] at hx322_0); have qi322 : (2 < l0.length) = True := eq_true (by omega); (try rw [show ((2 : Int)).toNat = 2 from rfl] at hx322_0); replace hx322_0 := (HB.out.cell (World.block_lt_of_cell? w _ hx322_0)).trans hx322_0; replace p322 := eq_true p322; replace q322 := eq_true q322) | ((with_reducible refine gate_dst (N := 10) rfl ?_); refine box_event ?hg (N := 10) ?hd (cs := #[.int .i64 0, .int .i64 0, .int .i64 0]) (t := 23) ?hr ?_; (case hd => rfl); (case hg => rfl); (case hr => first | (go_simp; done) | (go_simp; rfl)); intro gb323 hg w53 hbox hb; have n0_ := Aside0.mk (blk_below (g := gb301) (o := .cells #[.int .i64 0, .int .i64 0, .int .i64 0] 23 (0, 0)) (by (with_reducible repeat (first | refine blk_drewN ?_ _ | refine blk_drew ?_ | refine blk_alloc ?_ _)); exact BK301.out) hb); have n1_ := Aside0.mk (below_step (by repeat (first | (with_reducible first | exact HB.out | apply below_alloc | apply pw_below_drewN | apply below_drew1 | refine below_set ?_ GE301.out) | exact HB.out)) hb); have n2_ := Aside0.mk (hbox); have n3_ := Aside0.mk ((by rw [hg]; exact (below_size (by repeat (first | (with_reducible first | exact HB.out | apply below_alloc | apply pw_below_drewN | apply below_drew1 | refine below_set ?_ GE301.out) | exact HB.out))) : w.heap.size ≤ gb323)); have n4_ := Aside0.mk ((by rw [hg]; exact (below_size (by repeat (first | (with_reducible first | exact HB.out | apply below_alloc | apply pw_below_drewN | apply below_drew1 | refine below_set ?_ GE301.out) | exact HB.out))) : w.heap.size ≤ gb323)); have n5_ := Aside0.mk ((by rw [hg]; exact Nat.ne_of_lt (blk_lt (g := gb301) (o := .cells #[.int .i64 0, .int .i64 0, .int .i64 0] 23 (0, 0)) (by (with_reducible repeat (first | refine blk_drewN ?_ _ | refine blk_drew ?_ | refine blk_alloc ?_ _)); exact BK301.out)) : gb301 ≠ gb323)); have n6_ := Aside0.mk ((by rw [hg]; exact Nat.ne_of_gt (blk_lt (g := gb301) (o := .cells #[.int .i64 0, .int .i64 0, .int .i64 0] 23 (0, 0)) (by (with_reducible repeat (first | refine blk_drewN ?_ _ | refine blk_drew ?_ | refine blk_alloc ?_ _)); exact BK301.out)) : gb323 ≠ gb301)); clear BK301; clear HB; have BK301 := n0_; have HB := n1_; have BK323 := n2_; have GW323 := n3_; have GE323 := n4_; have NB301_323 := n5_; have NB323_301 := n6_; clear n0_ n1_ n2_ n3_ n4_ n5_ n6_; clear hb hbox hg; have hnb54 := NB323_301.out; have hnc54 := NB301_323.out; have hcz55_0 : w53.cell? ⟨gb323, 0, none⟩ = some (.int .i64 0) := (blk_cell BK323.out 0).trans rfl; have hcz55_1 : w53.cell? ⟨gb323, 1, none⟩ = some (.int .i64 0) := (blk_cell BK323.out 1).trans rfl; have hcz55_2 : w53.cell? ⟨gb323, 2, none⟩ = some (.int .i64 0) := (blk_cell BK323.out 2).trans rfl; have hfz55_0 := blk_frozen BK323.out 0; have hfz55_1 := blk_frozen BK323.out 1; have hfz55_2 := blk_frozen BK323.out 2))
                    have n0_ : Aside0 ((((w53.setCell ⟨gb323, 0, none⟩ (.int .i64 (wrap64 (rd l0 2)))).setCell ⟨gb323, 1, none⟩ (.int .i64 (wrap64 (t308)))).setCell ⟨gb323, 2, none⟩ (.int .i64 (Go.bits .or .i64 (wrap64 ((wrap64 (t320)) * 4294967296)) (wrap64 (t314))))).heap[gb301]? = some (.cells #[.int .i64 0, .int .i64 0, .int .i64 0] 23 (0, 0))) := ⟨by (with_reducible repeat (first | refine blk_drewN ?_ _ | refine blk_drew ?_ | refine blk_alloc ?_ _)); refine blk_far ?_ NB301_323.out _; (with_reducible repeat (first | refine blk_drewN ?_ _ | refine blk_drew ?_ | refine blk_alloc ?_ _)); refine blk_far ?_ NB301_323.out _; (with_reducible repeat (first | refine blk_drewN ?_ _ | refine blk_drew ?_ | refine blk_alloc ?_ _)); refine blk_far ?_ NB301_323.out _; (with_reducible repeat (first | refine blk_drewN ?_ _ | refine blk_drew ?_ | refine blk_alloc ?_ _)); exact BK301.out⟩
                    have n1_ : Aside0 ((((w53.setCell ⟨gb323, 0, none⟩ (.int .i64 (wrap64 (rd l0 2)))).setCell ⟨gb323, 1, none⟩ (.int .i64 (wrap64 (t308)))).setCell ⟨gb323, 2, none⟩ (.int .i64 (Go.bits .or .i64 (wrap64 ((wrap64 (t320)) * 4294967296)) (wrap64 (t314))))).heap[gb323]? = some (.cells #[.int .i64 (wrap64 (rd l0 2)), .int .i64 (wrap64 (t308)), .int .i64 (Go.bits .or .i64 (wrap64 ((wrap64 (t320)) * 4294967296)) (wrap64 (t314)))] 23 (0, 0))) := ⟨by (with_reducible repeat (first | refine blk_drewN ?_ _ | refine blk_drew ?_ | refine blk_alloc ?_ _)); refine blk_put (cs := #[.int .i64 (wrap64 (rd l0 2)), .int .i64 (wrap64 (t308)), .int .i64 0]) ?_ 2 _ rfl; (with_reducible repeat (first | refine blk_drewN ?_ _ | refine blk_drew ?_ | refine blk_alloc ?_ _)); refine blk_put (cs := #[.int .i64 (wrap64 (rd l0 2)), .int .i64 0, .int .i64 0]) ?_ 1 _ rfl; (with_reducible repeat (first | refine blk_drewN ?_ _ | refine blk_drew ?_ | refine blk_alloc ?_ _)); refine blk_put (cs := #[.int .i64 0, .int .i64 0, .int .i64 0]) ?_ 0 _ rfl; (with_reducible repeat (first | refine blk_drewN ?_ _ | refine blk_drew ?_ | refine blk_alloc ?_ _)); exact BK323.out⟩
                    have n2_ : Aside0 (Below w.heap.size w (((w53.setCell ⟨gb323, 0, none⟩ (.int .i64 (wrap64 (rd l0 2)))).setCell ⟨gb323, 1, none⟩ (.int .i64 (wrap64 (t308)))).setCell ⟨gb323, 2, none⟩ (.int .i64 (Go.bits .or .i64 (wrap64 ((wrap64 (t320)) * 4294967296)) (wrap64 (t314)))))) := ⟨by repeat (first | (with_reducible first | exact HB.out | apply below_alloc | apply pw_below_drewN | apply below_drew1 | refine below_set ?_ GE301.out | refine below_set ?_ GE323.out) | exact HB.out)⟩
                    (try clear BK301)
                    (try clear BK323)
                    (try clear HB)
                    (try simp only [IntKind.wrap_u8, IntKind.wrap_u32])
                    generalize (((w53.setCell ⟨gb323, 0, none⟩ (.int .i64 (wrap64 (rd l0 2)))).setCell ⟨gb323, 1, none⟩ (.int .i64 (wrap64 (t308)))).setCell ⟨gb323, 2, none⟩ (.int .i64 (Go.bits .or .i64 (wrap64 ((wrap64 (t320)) * 4294967296)) (wrap64 (t314))))) = w56 at n0_ n1_ n2_ ⊢
                    have BK301 := n0_
                    have BK323 := n1_
                    have HB := n2_
                    clear n0_ n1_ n2_
                    (try (rw [drewN_self w56]; generalize hq_ : World.drewN w56 _ = w56; have n0_ : Aside0 (w56.heap[gb301]? = some (.cells #[.int .i64 0, .int .i64 0, .int .i64 0] 23 (0, 0))) := ⟨by rw [← hq_]; exact (by (with_reducible repeat (first | refine blk_drewN ?_ _ | refine blk_drew ?_ | refine blk_alloc ?_ _)); exact BK301.out)⟩; have n1_ : Aside0 (w56.heap[gb323]? = some (.cells #[.int .i64 (wrap64 (rd l0 2)), .int .i64 (wrap64 (t308)), .int .i64 (Go.bits .or .i64 (wrap64 ((wrap64 (t320)) * 4294967296)) (wrap64 (t314)))] 23 (0, 0))) := ⟨by rw [← hq_]; exact (by (with_reducible repeat (first | refine blk_drewN ?_ _ | refine blk_drew ?_ | refine blk_alloc ?_ _)); exact BK323.out)⟩; have n2_ : Aside0 (Below w.heap.size w w56) := ⟨by rw [← hq_]; exact (by repeat (first | (with_reducible first | exact HB.out | apply below_alloc | apply pw_below_drewN | apply below_drew1 | refine below_set ?_ GE301.out | refine below_set ?_ GE323.out) | exact HB.out))⟩; clear BK301 BK323 HB hq_; have BK301 := n0_; have BK323 := n1_; have HB := n2_; clear n0_ n1_ n2_))
                    have n0_ := Aside0.mk (blk_drew BK301.out)
                    have n1_ := Aside0.mk (blk_drew BK323.out)
                    have n2_ := Aside0.mk (below_drew1 HB.out)
                    clear BK301
                    clear BK323
                    clear HB
                    have BK301 := n0_
                    have BK323 := n1_
                    have HB := n2_
                    clear n0_ n1_ n2_
                    refine start_ (n := 12) (S := fun w' => w'.cell? ⟨gb323, 0, none⟩ = some (.int .i64 (wrap64 (rd l0 2))) ∧ w'.cell? ⟨gb323, 1, none⟩ = some (.int .i64 (wrap64 (t308))) ∧ w'.cell? ⟨gb323, 2, none⟩ = some (.int .i64 (Go.bits .or .i64 (wrap64 ((wrap64 (t320)) * 4294967296)) (wrap64 (t314))))) (ds := []) #[false, false, false, false, false, false, false, false, false, false, false, false] (by kernel_rfl) rfl rfl ⟨(blk_cell BK323.out 0).trans rfl, (blk_cell BK323.out 1).trans rfl, (blk_cell BK323.out 2).trans rfl⟩ (fun hHeld => ?_); refine with_tabW mark_Read.tab9 mark_Read.bits9 (fun HT_ HW_ => ?_)
                    generalize w56.drew = w57 at BK301 BK323 HB hHeld ⊢
                    refine take_ (i := 0) (N := some 61) (v := ?_) (a' := ?_) #[true, false, false, false, false, false, false, false, false, false, false, false] rfl rfl (take_ofW HT_.out HW_.out (by kernel_rfl)) (fun _ _ _ h => h) (Or.inl ⟨by rfl, ?_⟩) hHeld ?_ ?_
                    rotate_left
                    · rintro w' ⟨s0, s1, s2⟩
                      go_simp
                      with_reducible rfl
                    rotate_left
                    · simp only [Act.put, List.setIfInBounds_toArray, List.set_cons_zero, List.set_cons_succ, i64_w, i32_w]
                      rfl
                    refine one_ (i := 1) (N := some 62) #[true, true, false, false, false, false, false, false, false, false, false, false] rfl rfl (one_of HT_.out (by kernel_rfl)) (by decide) (fun K hK => ?_)
                    refine goes_ Try.func20 (by kernel_rfl) rfl #[.agg #[.int .i64 (wrap64 (rd l0 2)), .int .i64 (wrap64 (t308)), .int .i64 (Go.bits .or .i64 (wrap64 ((wrap64 (t320)) * 4294967296)) (wrap64 (t314)))]] (by rfl) rfl rfl (by (try simp only [List.map_toArray, List.map_cons, List.map_nil]); first | done | rfl | (simp only [List.length_drop, List.length_take]; rfl)) ?_
                    with_reducible refine (mark_Right.calls (wrap64 (rd l0 2)) (wrap64 (t308)) (Go.bits .or .i64 (wrap64 ((wrap64 (t320)) * 4294967296)) (wrap64 (t314))) false _ A22.out).mono ?_
                    rintro e w58 ⟨rfl, hb⟩
                    refine ⟨_, rfl, ?_⟩
                    have n0_ := Aside0.mk (blk_below (g := gb301) (o := .cells #[.int .i64 0, .int .i64 0, .int .i64 0] 23 (0, 0)) (by (with_reducible repeat (first | refine blk_drewN ?_ _ | refine blk_drew ?_ | refine blk_alloc ?_ _)); exact BK301.out) hb)
                    have n1_ := Aside0.mk (blk_below (g := gb323) (o := .cells #[.int .i64 (wrap64 (rd l0 2)), .int .i64 (wrap64 (t308)), .int .i64 (Go.bits .or .i64 (wrap64 ((wrap64 (t320)) * 4294967296)) (wrap64 (t314)))] 23 (0, 0)) (by (with_reducible repeat (first | refine blk_drewN ?_ _ | refine blk_drew ?_ | refine blk_alloc ?_ _)); exact BK323.out) hb)
                    have n2_ := Aside0.mk (below_step (by repeat (first | (with_reducible first | exact HB.out | apply below_alloc | apply pw_below_drewN | apply below_drew1 | refine below_set ?_ GE301.out | refine below_set ?_ GE323.out) | exact HB.out)) hb)
                    clear BK301
                    clear BK323
                    clear HB
                    have BK301 := n0_
                    have BK323 := n1_
                    have HB := n2_
                    clear n0_ n1_ n2_
                    (try clear hb)
                    (try clear hb2)
                    (try clear hk)
                    (try clear hi)
                    refine hK.out _ _ ⟨(blk_cell BK323.out 0).trans rfl, (blk_cell BK323.out 1).trans rfl, (blk_cell BK323.out 2).trans rfl⟩ (fun hHeld => ?_)
                    clear hK K
                    refine norm_ (a' := ?_) ?_ ?_
                    rotate_left
                    · show Act.put _ (some 62) _ = _
                      simp only [Act.put, List.setIfInBounds_toArray, List.set_cons_zero, List.set_cons_succ, i64_w, i32_w]
                      rfl
                    refine pure_ (i := 2) (N := some 63) (v := ?_) (a' := ?_) #[true, true, true, false, false, false, false, false, false, false, false, false] rfl rfl (any_of HT_.out (by kernel_rfl)) (fun _ _ _ h => h) (Or.inl ⟨by rfl, ?_⟩) ?_ ?_
                    rotate_left
                    · intro w'
                      go_simp
                      with_reducible rfl
                    rotate_left
                    · simp only [Act.put, List.setIfInBounds_toArray, List.set_cons_zero, List.set_cons_succ, i64_w, i32_w]
                      rfl
                    refine pure_ (i := 3) (N := some 64) (v := ?_) (a' := ?_) #[true, true, true, true, false, false, false, false, false, false, false, false] rfl rfl (any_of HT_.out (by kernel_rfl)) (fun _ _ _ h => h) (Or.inl ⟨by rfl, ?_⟩) ?_ ?_
                    rotate_left
                    · intro w'
                      go_simp
                      with_reducible rfl
                    rotate_left
                    · simp only [Act.put, List.setIfInBounds_toArray, List.set_cons_zero, List.set_cons_succ, i64_w, i32_w]
                      rfl
                    refine pure_ (i := 4) (N := some 65) (v := undef) (a' := ?_) #[true, true, true, true, true, false, false, false, false, false, false, false] rfl rfl (any_of HT_.out (by kernel_rfl)) (fun _ _ _ h => h) (Or.inr ⟨by rfl, rfl⟩) ?_ ?_
                    rotate_left
                    · simp only [Act.put, List.setIfInBounds_toArray, List.set_cons_zero, List.set_cons_succ, i64_w, i32_w]
                      rfl
                    refine pure_ (i := 5) (N := some 66) (v := undef) (a' := ?_) #[true, true, true, true, true, true, false, false, false, false, false, false] rfl rfl (any_of HT_.out (by kernel_rfl)) (fun _ _ _ h => h) (Or.inr ⟨by rfl, rfl⟩) ?_ ?_
                    rotate_left
                    · simp only [Act.put, List.setIfInBounds_toArray, List.set_cons_zero, List.set_cons_succ, i64_w, i32_w]
                      rfl
                    refine pure_ (i := 6) (N := some 67) (v := undef) (a' := ?_) #[true, true, true, true, true, true, true, false, false, false, false, false] rfl rfl (any_of HT_.out (by kernel_rfl)) (fun _ _ _ h => h) (Or.inr ⟨by rfl, rfl⟩) ?_ ?_
                    rotate_left
                    · simp only [Act.put, List.setIfInBounds_toArray, List.set_cons_zero, List.set_cons_succ, i64_w, i32_w]
                      rfl
                    refine pure_ (i := 7) (N := some 68) (v := undef) (a' := ?_) #[true, true, true, true, true, true, true, true, false, false, false, false] rfl rfl (any_of HT_.out (by kernel_rfl)) (fun _ _ _ h => h) (Or.inr ⟨by rfl, rfl⟩) ?_ ?_
                    rotate_left
                    · simp only [Act.put, List.setIfInBounds_toArray, List.set_cons_zero, List.set_cons_succ, i64_w, i32_w]
                      rfl
                    refine pure_ (i := 8) (N := some 69) (v := undef) (a' := ?_) #[true, true, true, true, true, true, true, true, true, false, false, false] rfl rfl (any_of HT_.out (by kernel_rfl)) (fun _ _ _ h => h) (Or.inr ⟨by rfl, rfl⟩) ?_ ?_
                    rotate_left
                    · simp only [Act.put, List.setIfInBounds_toArray, List.set_cons_zero, List.set_cons_succ, i64_w, i32_w]
                      rfl
                    refine pure_ (i := 9) (N := some 70) (v := undef) (a' := ?_) #[true, true, true, true, true, true, true, true, true, true, false, false] rfl rfl (any_of HT_.out (by kernel_rfl)) (fun _ _ _ h => h) (Or.inr ⟨by rfl, rfl⟩) ?_ ?_
                    rotate_left
                    · simp only [Act.put, List.setIfInBounds_toArray, List.set_cons_zero, List.set_cons_succ, i64_w, i32_w]
                      rfl
                    refine pure_ (i := 10) (N := some 71) (v := undef) (a' := ?_) #[true, true, true, true, true, true, true, true, true, true, true, false] rfl rfl (any_of HT_.out (by kernel_rfl)) (fun _ _ _ h => h) (Or.inr ⟨by rfl, rfl⟩) ?_ ?_
                    rotate_left
                    · simp only [Act.put, List.setIfInBounds_toArray, List.set_cons_zero, List.set_cons_succ, i64_w, i32_w]
                      rfl
                    refine pure_ (i := 11) (N := some 72) (v := ?_) (a' := ?_) #[true, true, true, true, true, true, true, true, true, true, true, true] rfl rfl (any_of HT_.out (by kernel_rfl)) (fun _ _ _ h => h) (Or.inl ⟨by rfl, ?_⟩) ?_ ?_
                    rotate_left
                    · intro w'
                      go_simp
                      with_reducible rfl
                    rotate_left
                    · simp only [Act.put, List.setIfInBounds_toArray, List.set_cons_zero, List.set_cons_succ, i64_w, i32_w]
                      rfl
                    refine done_ (done_of HT_.out (by kernel_rfl)) ?_
                    have hcz59_0 : w58.cell? ⟨gb301, 0, none⟩ = some (.int .i64 0) := (blk_cell BK301.out 0).trans rfl
                    have hcz59_1 : w58.cell? ⟨gb301, 1, none⟩ = some (.int .i64 0) := (blk_cell BK301.out 1).trans rfl
                    have hcz59_2 : w58.cell? ⟨gb301, 2, none⟩ = some (.int .i64 0) := (blk_cell BK301.out 2).trans rfl
                    have hfz59_0 := blk_frozen BK301.out 0
                    have hfz59_1 := blk_frozen BK301.out 1
                    have hfz59_2 := blk_frozen BK301.out 2
                    try go_wp2
                    refine bodyPost_ret (results_ct rfl _ _ gb301 23 #[.int .i64 0, .int .i64 0, .int .i64 0] (0, 0) _ rfl (by (with_reducible repeat (first | refine blk_drewN ?_ _ | refine blk_drew ?_ | refine blk_alloc ?_ _)); refine blk_put (cs := #[.int .i64 0, .int .i64 0, .int .i64 0]) ?_ 2 _ rfl; (with_reducible repeat (first | refine blk_drewN ?_ _ | refine blk_drew ?_ | refine blk_alloc ?_ _)); refine blk_put (cs := #[.int .i64 0, .int .i64 0, .int .i64 0]) ?_ 1 _ rfl; (with_reducible repeat (first | refine blk_drewN ?_ _ | refine blk_drew ?_ | refine blk_alloc ?_ _)); refine blk_put (cs := #[.int .i64 0, .int .i64 0, .int .i64 0]) ?_ 0 _ rfl; (with_reducible repeat (first | refine blk_drewN ?_ _ | refine blk_drew ?_ | refine blk_alloc ?_ _)); exact BK301.out) Try.underlying23 rfl (by kernel_rfl)) rfl ?_
                    exact ⟨by first | rfl | (simp [errW_none, errW_some] <;> rfl) | (simp [*, errW_none, errW_some] <;> rfl), by repeat (first | (with_reducible first | exact HB.out | apply below_alloc | apply pw_below_drewN | apply below_drew1 | refine below_set ?_ GE301.out | refine below_set ?_ GE323.out) | exact HB.out)⟩
                · rw [if_neg c21] at H
                  exact absurd H (by simp)
            · rw [if_neg c14] at H
              exact absurd H (by simp)
          · rw [if_neg c12] at H
            exact absurd H (by simp)
        · rw [if_neg c10] at H
          exact absurd H (by simp)

end Go.Proofs.Ytjjohdeknahkmaa.X
