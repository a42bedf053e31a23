-- laid by wip/tools/xprint.py (our own changes over the printer)
import Derived.Test.YtjjohdeknahkmaaX0
import Derived.Test.YtjjohdeknahkmaaX1
import Derived.Test.YtjjohdeknahkmaaX6
import Derived.Test.YtjjohdeknahkmaaX7
import Derived.Test.YtjjohdeknahkmaaX32
namespace Go.Proofs.Ytjjohdeknahkmaa.X
open Go.RowKit Go.Proofs.YtjjohdeknahkmaaW.PrintWords Go.Proofs.YtjjohdeknahkmaaW.PrintLast Go.Proofs.YtjjohdeknahkmaaW.PrintMore
attribute [local go_sem] max2_int min2_int max_two min_two max_three min_three max_four min_four   -- for this text's walks alone
set_option linter.unusedVariables false
set_option linter.unusedSimpArgs false

attribute [local go_sem high] eqA23
/-! ### strakelaw06_MarkTurned: function 10 -/
def strakelaw06_MarkTurned.j0 : Nat → Bool → List Int → Bool → Int → Int → Int → Int → Int → Option (Bool)
  | 0, _, _, _, _, _, _, _, _ => none
  | k + 1, x5, x6, x29, x388000, x388001, x388002, x389000, x389001 => if x29 = true then (some x5) else (if (x6.length : Int) = 16 then ((some (([] : List Int) : List Int)).bind fun y394 => (if y394.length + x6.length < 140737488355328 then ((some (y394 ++ x6 : List Int)).bind fun y397 => (if 0 ≤ (Int.tmod x389000 16) then (if (Int.tmod x389000 16) < (y397.length : Int) then ((some (y397.set ((Int.tmod x389000 16) : Int).toNat (Go.bits .xor .u8 (rd y397 (Int.tmod x389000 16)) ((x389001) % 256)) : List Int)).bind fun y401 => ((mark_Read.f k y401).bind fun bt402 => (if bt402.2.2.2 = 0 then (if x5 = true then (some (!(bt402.1 == x388000) || (!(bt402.2.1 == x388001) || (!(bt402.2.2.1 == x388002))))) else (some false)) else (if x5 = true then (if bt402.2.2.2 = 3 then (if (bt402.1 == 0 && (bt402.2.1 == 0 && (bt402.2.2.1 == 0))) = true then (if (Int.tmod x389000 16) = 2 then (if 2 < (y397.length : Int) then (some (decide ((rd y401 2) > 63))) else (none)) else (some true)) else (some false)) else (some false)) else (some false))))) else (none)) else (none))) else (none))) else (some false))
def strakelaw06_MarkTurned.f (k : Nat) (a0_0 : Int) (a0_1 : Int) (a0_2 : Int) (a1_0 : Int) (a1_1 : Int) : Option (Bool) := (strakelaw06_awake.f).bind fun t389 => ((mark_Sector.f a0_0 a0_1 a0_2).bind fun bt390 => (if bt390.2 = 0 then (if a1_0 < 0 then (strakelaw06_MarkTurned.j0 k t389 bt390.1 true a0_0 a0_1 a0_2 a1_0 a1_1) else (strakelaw06_MarkTurned.j0 k t389 bt390.1 (((a1_1) % 256) == 0) a0_0 a0_1 a0_2 a1_0 a1_1)) else (strakelaw06_MarkTurned.j0 k t389 bt390.1 true a0_0 a0_1 a0_2 a1_0 a1_1)))
theorem strakelaw06_MarkTurned.mono_l : ∀ k, (∀ y0 y1 y2 y3 y4 y5 y6 y7, LeO (strakelaw06_MarkTurned.j0 k y0 y1 y2 y3 y4 y5 y6 y7) (strakelaw06_MarkTurned.j0 (k + 1) y0 y1 y2 y3 y4 y5 y6 y7))
  | 0 => fun _ _ _ _ _ _ _ _ r h => by simp [strakelaw06_MarkTurned.j0] at h
  | k + 1 => by
    have ih0 := strakelaw06_MarkTurned.mono_l k
    · intro y0 y1 y2 y3 y4 y5 y6 y7
      unfold strakelaw06_MarkTurned.j0
      repeat' first
      | (with_reducible exact ih0 _ _ _ _ _ _ _ _)
      | (with_reducible exact mark_Read.mono _ _)
      | (with_reducible exact LeO.refl _)
      | (with_reducible exact LeO.none _)
      | (with_reducible refine LeO.ite ?_ ?_)
      | (with_reducible refine LeO.bind ?_ (fun _ => ?_))
      | exact ih0 _ _ _ _ _ _ _ _
      | exact mark_Read.mono _ _
      | exact LeO.none _
      | refine LeO.ite ?_ ?_
      | refine LeO.bind ?_ (fun _ => ?_)
theorem strakelaw06_MarkTurned.mono : ∀ a0 a1 a2 a3 a4 k, LeO (strakelaw06_MarkTurned.f k a0 a1 a2 a3 a4) (strakelaw06_MarkTurned.f (k + 1) a0 a1 a2 a3 a4) := by
  intro a0 a1 a2 a3 a4 k
  have ih0 := strakelaw06_MarkTurned.mono_l k
  unfold strakelaw06_MarkTurned.f
  repeat' first
      | (with_reducible exact ih0 _ _ _ _ _ _ _ _)
      | (with_reducible exact mark_Read.mono _ _)
      | (with_reducible exact LeO.refl _)
      | (with_reducible exact LeO.none _)
      | (with_reducible refine LeO.ite ?_ ?_)
      | (with_reducible refine LeO.bind ?_ (fun _ => ?_))
      | exact ih0 _ _ _ _ _ _ _ _
      | exact mark_Read.mono _ _
      | exact LeO.none _
      | refine LeO.ite ?_ ?_
      | refine LeO.bind ?_ (fun _ => ?_)
def strakelaw06_MarkTurned.T8 : Bool × List (List Nat × List Nat) := (true, [([], []), ([], []), ([1], [1]), ([2], [2]), ([], []), ([], []), ([5], [5]), ([6], [6]), ([4, 7], [4, 7]), ([8], [8]), ([], []), ([10], [10]), ([11], [11]), ([9, 12], [9, 12]), ([0, 3, 0, 1, 2, 3, 4, 5, 6, 7, 8, 9, 10, 11, 12, 13], [0, 3]), ([14, 13, 0, 1, 2, 3, 4, 5, 6, 7, 8, 9, 10, 11, 12, 13], [13, 14])])
def strakelaw06_MarkTurned.B8 : List Nat := [0, 0, 2, 6, 0, 0, 32, 96, 240, 496, 0, 1024, 3072, 8176, 16383, 32767]
theorem strakelaw06_MarkTurned.tab8 : rtab .any (opsOf Try.f10 8) = strakelaw06_MarkTurned.T8 := by kernel_rfl
theorem strakelaw06_MarkTurned.bits8 : waitsOk strakelaw06_MarkTurned.T8.2 strakelaw06_MarkTurned.B8 = true := by kernel_rfl
set_option maxHeartbeats 8000000 in
set_option maxRecDepth 100000 in
theorem strakelaw06_MarkTurned.calls (k : Nat) (a0_0 : Int) (a0_1 : Int) (a0_2 : Int) (a1_0 : Int) (a1_1 : Int) (r : Bool) (w : World) (h : strakelaw06_MarkTurned.f k a0_0 a0_1 a0_2 a1_0 a1_1 = some r) :
    Calls Try.prog 10 #[.agg #[.int .i64 a0_0, .int .i64 a0_1, .int .i64 a0_2], .agg #[.int .i64 a1_0, .int .i64 a1_1]] w fun e w' => e = .returned (.bool r) ∧ Below w.heap.size w w' := by
  have hu23 := Try.underlying23
  have hu45 := Try.underlying45
  have HB := Aside0.mk (Below.refl w.heap.size w)
  have H : ((strakelaw06_awake.f).bind fun t389 => ((mark_Sector.f a0_0 a0_1 a0_2).bind fun bt390 => (if bt390.2 = 0 then (if a1_0 < 0 then (strakelaw06_MarkTurned.j0 k t389 bt390.1 true a0_0 a0_1 a0_2 a1_0 a1_1) else (strakelaw06_MarkTurned.j0 k t389 bt390.1 (((a1_1) % 256) == 0) a0_0 a0_1 a0_2 a1_0 a1_1)) else (strakelaw06_MarkTurned.j0 k t389 bt390.1 true a0_0 a0_1 a0_2 a1_0 a1_1)))) = some r := h
  clear h
  replace H := Option.bind_eq_some_iff.mp H
  obtain ⟨t389, A30, H⟩ := H
  replace H : ((mark_Sector.f a0_0 a0_1 a0_2).bind fun bt390 => (if bt390.2 = 0 then (if a1_0 < 0 then (strakelaw06_MarkTurned.j0 k t389 bt390.1 true a0_0 a0_1 a0_2 a1_0 a1_1) else (strakelaw06_MarkTurned.j0 k t389 bt390.1 (((a1_1) % 256) == 0) a0_0 a0_1 a0_2 a1_0 a1_1)) else (strakelaw06_MarkTurned.j0 k t389 bt390.1 true a0_0 a0_1 a0_2 a1_0 a1_1))) = some r := H
  have A3 := Aside0.mk A30
  clear A30
  replace H := Option.bind_eq_some_iff.mp H
  obtain ⟨⟨t390, t393⟩, A40, H⟩ := H
  replace H : (if t393 = 0 then (if a1_0 < 0 then (strakelaw06_MarkTurned.j0 k t389 t390 true a0_0 a0_1 a0_2 a1_0 a1_1) else (strakelaw06_MarkTurned.j0 k t389 t390 (((a1_1) % 256) == 0) a0_0 a0_1 a0_2 a1_0 a1_1)) else (strakelaw06_MarkTurned.j0 k t389 t390 true a0_0 a0_1 a0_2 a1_0 a1_1)) = some r := H
  have A4 := Aside0.mk A40
  clear A40
  have HC5 := Aside0.mk H
  clear H
  go_enter Try.func10, Try.ntmps10
  go_upto_region 3 with (first | ((with_reducible refine gate_dst (N := 2) rfl ?_); refine box_event ?hg (N := 2) ?hd (cs := #[.int .i64 a0_0, .int .i64 a0_1, .int .i64 a0_2]) (t := 23) ?hr ?_; (case hd => rfl); (case hg => rfl); (case hr => first | (go_simp; done) | (go_simp; rfl)); intro gb387 hg w6 hbox hb; have n0_ := Aside0.mk (below_step (by repeat (first | (with_reducible first | exact HB.out | apply below_alloc | apply pw_below_drewN | apply below_drew1) | exact HB.out)) hb); have n1_ := Aside0.mk (hbox); have n2_ := Aside0.mk ((by rw [hg]; exact (below_size (by repeat (first | (with_reducible first | exact HB.out | apply below_alloc | apply pw_below_drewN | apply below_drew1) | exact HB.out))) : w.heap.size ≤ gb387)); have n3_ := Aside0.mk ((by rw [hg]; exact (below_size (by repeat (first | (with_reducible first | exact HB.out | apply below_alloc | apply pw_below_drewN | apply below_drew1) | exact HB.out))) : w.heap.size ≤ gb387)); clear HB; have HB := n0_; have BK387 := n1_; have GW387 := n2_; have GE387 := n3_; clear n0_ n1_ n2_ n3_; clear hb hbox hg) | ((with_reducible refine gate_dst (N := 3) rfl ?_); refine box_event ?hg (N := 3) ?hd (cs := #[.int .i64 a1_0, .int .i64 a1_1]) (t := 45) ?hr ?_; (case hd => rfl); (case hg => rfl); (case hr => first | (go_simp; done) | (go_simp; rfl)); intro gb388 hg w7 hbox hb; have n0_ := Aside0.mk (blk_below (g := gb387) (o := .cells #[.int .i64 a0_0, .int .i64 a0_1, .int .i64 a0_2] 23 (0, 0)) (by (with_reducible repeat (first | refine blk_drewN ?_ _ | refine blk_drew ?_ | refine blk_alloc ?_ _)); exact BK387.out) hb); have n1_ := Aside0.mk (below_step (by repeat (first | (with_reducible first | exact HB.out | apply below_alloc | apply pw_below_drewN | apply below_drew1 | refine below_set ?_ GE387.out) | exact HB.out)) hb); have n2_ := Aside0.mk (hbox); have n3_ := Aside0.mk ((by rw [hg]; exact (below_size (by repeat (first | (with_reducible first | exact HB.out | apply below_alloc | apply pw_below_drewN | apply below_drew1 | refine below_set ?_ GE387.out) | exact HB.out))) : w.heap.size ≤ gb388)); have n4_ := Aside0.mk ((by rw [hg]; exact (below_size (by repeat (first | (with_reducible first | exact HB.out | apply below_alloc | apply pw_below_drewN | apply below_drew1 | refine below_set ?_ GE387.out) | exact HB.out))) : w.heap.size ≤ gb388)); have n5_ := Aside0.mk ((by rw [hg]; exact Nat.ne_of_lt (blk_lt (g := gb387) (o := .cells #[.int .i64 a0_0, .int .i64 a0_1, .int .i64 a0_2] 23 (0, 0)) (by (with_reducible repeat (first | refine blk_drewN ?_ _ | refine blk_drew ?_ | refine blk_alloc ?_ _)); exact BK387.out)) : gb387 ≠ gb388)); have n6_ := Aside0.mk ((by rw [hg]; exact Nat.ne_of_gt (blk_lt (g := gb387) (o := .cells #[.int .i64 a0_0, .int .i64 a0_1, .int .i64 a0_2] 23 (0, 0)) (by (with_reducible repeat (first | refine blk_drewN ?_ _ | refine blk_drew ?_ | refine blk_alloc ?_ _)); exact BK387.out)) : gb388 ≠ gb387)); clear BK387; clear HB; have BK387 := n0_; have HB := n1_; have BK388 := n2_; have GW388 := n3_; have GE388 := n4_; have NB387_388 := n5_; have NB388_387 := n6_; clear n0_ n1_ n2_ n3_ n4_ n5_ n6_; clear hb hbox hg) | ((with_reducible refine gate_callee (f := 15) rfl ?_); refine goesL_ (some 11) rfl rfl Try.func15 (by kernel_rfl) rfl #[] rfl (by (try simp only [List.map_toArray, List.map_cons, List.map_nil]); first | done | rfl | (simp only [List.length_drop, List.length_take]; rfl)) ?_; (with_reducible refine (strakelaw06_awake.calls  t389 _ A3.out).mono ?_); rintro e w8 ⟨rfl, hb⟩; refine ⟨_, rfl, ?_⟩; have n0_ := Aside0.mk (blk_below (g := gb387) (o := .cells #[.int .i64 a0_0, .int .i64 a0_1, .int .i64 a0_2] 23 (0, 0)) (by (with_reducible repeat (first | refine blk_drewN ?_ _ | refine blk_drew ?_ | refine blk_alloc ?_ _)); exact BK387.out) hb); have n1_ := Aside0.mk (blk_below (g := gb388) (o := .cells #[.int .i64 a1_0, .int .i64 a1_1] 45 (0, 0)) (by (with_reducible repeat (first | refine blk_drewN ?_ _ | refine blk_drew ?_ | refine blk_alloc ?_ _)); exact BK388.out) hb); have n2_ := Aside0.mk (below_step (by repeat (first | (with_reducible first | exact HB.out | apply below_alloc | apply pw_below_drewN | apply below_drew1 | refine below_set ?_ GE387.out | refine below_set ?_ GE388.out) | exact HB.out)) hb); clear BK387; clear BK388; clear HB; have BK387 := n0_; have BK388 := n1_; have HB := n2_; clear n0_ n1_ n2_; (try clear hb); (try clear hb2); (try clear hk); (try clear hi); have hnb9 := NB387_388.out; have hnc9 := NB388_387.out; have hcz10_0 : w8.cell? ⟨gb387, 0, none⟩ = some (.int .i64 a0_0) := (blk_cell BK387.out 0).trans rfl; have hcz10_1 : w8.cell? ⟨gb387, 1, none⟩ = some (.int .i64 a0_1) := (blk_cell BK387.out 1).trans rfl; have hcz10_2 : w8.cell? ⟨gb387, 2, none⟩ = some (.int .i64 a0_2) := (blk_cell BK387.out 2).trans rfl; have hfz10_0 := blk_frozen BK387.out 0; have hfz10_1 := blk_frozen BK387.out 1; have hfz10_2 := blk_frozen BK387.out 2) | ((with_reducible refine gate_callee (f := 16) rfl ?_); refine goesL_ (some 14) rfl rfl Try.func16 (by kernel_rfl) rfl #[.agg #[.int .i64 a0_0, .int .i64 a0_1, .int .i64 a0_2]] rfl (by (try simp only [List.map_toArray, List.map_cons, List.map_nil]); first | done | rfl | (simp only [List.length_drop, List.length_take]; rfl)) ?_; (with_reducible refine (mark_Sector.calls a0_0 a0_1 a0_2 t390 t393 _ A4.out).mono ?_); rintro e w11 ⟨v391, rfl, ho0, hb⟩; refine ⟨_, rfl, ?_⟩; have n0_ := Aside0.mk (Kd.R_lower ho0 (below_size (by repeat (first | (with_reducible first | exact HB.out | apply below_alloc | apply pw_below_drewN | apply below_drew1 | refine below_set ?_ GE387.out | refine below_set ?_ GE388.out) | exact HB.out)))); have n1_ := Aside0.mk (blk_below (g := gb387) (o := .cells #[.int .i64 a0_0, .int .i64 a0_1, .int .i64 a0_2] 23 (0, 0)) (by (with_reducible repeat (first | refine blk_drewN ?_ _ | refine blk_drew ?_ | refine blk_alloc ?_ _)); exact BK387.out) hb); have n2_ := Aside0.mk (blk_below (g := gb388) (o := .cells #[.int .i64 a1_0, .int .i64 a1_1] 45 (0, 0)) (by (with_reducible repeat (first | refine blk_drewN ?_ _ | refine blk_drew ?_ | refine blk_alloc ?_ _)); exact BK388.out) hb); have n3_ := Aside0.mk (below_step (by repeat (first | (with_reducible first | exact HB.out | apply below_alloc | apply pw_below_drewN | apply below_drew1 | refine below_set ?_ GE387.out | refine below_set ?_ GE388.out) | exact HB.out)) hb); clear BK387; clear BK388; clear HB; have HO392 := n0_; have BK387 := n1_; have BK388 := n2_; have HB := n3_; clear n0_ n1_ n2_ n3_; (try clear hb); (try clear hb2); (try clear hk); (try clear hi); (try clear ho0)))
  (try simp only [Act.put, List.setIfInBounds_toArray, List.set_cons_zero, List.set_cons_succ])
  go_cut [29] (fun v29 wc => ∃ (kq : Nat) (x29_4 : Bool), v29 = .bool x29_4 ∧ Aside0 (strakelaw06_MarkTurned.j0 kq t389 t390 x29_4 a0_0 a0_1 a0_2 a1_0 a1_1 = some r) ∧ Aside0 (kq ≤ k) ∧ Aside0 (Kd.R (Kd.int .u8) 5 wc w.heap.size (fun _ => True) v391 t390) ∧ Aside0 (wc.heap[gb387]? = some (.cells #[.int .i64 a0_0, .int .i64 a0_1, .int .i64 a0_2] 23 (0, 0))) ∧ Aside0 (wc.heap[gb388]? = some (.cells #[.int .i64 a1_0, .int .i64 a1_1] 45 (0, 0))) ∧ Aside0 (Below w.heap.size w wc))
  case first =>
    have H := HC5.out
    clear HC5
    by_cases c12 : t393 = 0
    · rw [if_pos c12] at H
      have c12b0 : (t393 == 0) = true := beq_iff_eq.mpr c12
      have c12b1 : (t393 != 0) = false := bne_eq_false_iff_eq.mpr c12
      clear c12
      (first | rw [c12b0] | (simp only [i64_w, i32_w]; rw [c12b0]) | skip)
      by_cases c13 : a1_0 < 0
      · rw [if_pos c13] at H
        have c13b0 : decide (a1_0 < 0) = true := decide_eq_true c13
        clear c13
        have H' := Aside0.mk H
        clear H
        have hnb14 := NB388_387.out
        have hnc14 := NB387_388.out
        have hcz15_0 : w11.cell? ⟨gb388, 0, none⟩ = some (.int .i64 a1_0) := (blk_cell BK388.out 0).trans rfl
        have hcz15_1 : w11.cell? ⟨gb388, 1, none⟩ = some (.int .i64 a1_1) := (blk_cell BK388.out 1).trans rfl
        have hfz15_0 := blk_frozen BK388.out 0
        have hfz15_1 := blk_frozen BK388.out 1
        go_wp2
        go_meet
        case rel => exact ⟨_, (true), (by first | rfl | (simp; done) | (simp [*]; done)), H', ⟨by first | omega | exact Nat.le_refl _⟩, ⟨by (with_reducible repeat (first | apply Kd.R_alloc | apply Kd.R_drewN | apply Kd.R_drew)); exact HO392.out⟩, ⟨by (with_reducible repeat (first | refine blk_drewN ?_ _ | refine blk_drew ?_ | refine blk_alloc ?_ _)); exact BK387.out⟩, ⟨by (with_reducible repeat (first | refine blk_drewN ?_ _ | refine blk_drew ?_ | refine blk_alloc ?_ _)); exact BK388.out⟩, ⟨by repeat (first | (with_reducible first | exact HB.out | apply below_alloc | apply pw_below_drewN | apply below_drew1 | refine below_set ?_ GE387.out | refine below_set ?_ GE388.out) | exact HB.out)⟩⟩
      · rw [if_neg c13] at H
        have c13b0 : decide (a1_0 < 0) = false := decide_eq_false c13
        clear c13
        have H' := Aside0.mk H
        clear H
        have hnb16 := NB388_387.out
        have hnc16 := NB387_388.out
        have hcz17_0 : w11.cell? ⟨gb388, 0, none⟩ = some (.int .i64 a1_0) := (blk_cell BK388.out 0).trans rfl
        have hcz17_1 : w11.cell? ⟨gb388, 1, none⟩ = some (.int .i64 a1_1) := (blk_cell BK388.out 1).trans rfl
        have hfz17_0 := blk_frozen BK388.out 0
        have hfz17_1 := blk_frozen BK388.out 1
        go_wp2
        go_meet
        case rel => exact ⟨_, ((((a1_1) % 256) == 0)), (by first | rfl | (simp; done) | (simp [*]; done)), H', ⟨by first | omega | exact Nat.le_refl _⟩, ⟨by (with_reducible repeat (first | apply Kd.R_alloc | apply Kd.R_drewN | apply Kd.R_drew)); exact HO392.out⟩, ⟨by (with_reducible repeat (first | refine blk_drewN ?_ _ | refine blk_drew ?_ | refine blk_alloc ?_ _)); exact BK387.out⟩, ⟨by (with_reducible repeat (first | refine blk_drewN ?_ _ | refine blk_drew ?_ | refine blk_alloc ?_ _)); exact BK388.out⟩, ⟨by repeat (first | (with_reducible first | exact HB.out | apply below_alloc | apply pw_below_drewN | apply below_drew1 | refine below_set ?_ GE387.out | refine below_set ?_ GE388.out) | exact HB.out)⟩⟩
    · rw [if_neg c12] at H
      have c12b0 : (t393 == 0) = false := beq_eq_false_iff_ne.mpr c12
      have c12b1 : (t393 != 0) = true := bne_iff_ne.mpr c12
      (first | rw [c12b0] | (simp only [i64_w, i32_w]; rw [c12b0]) | skip)
      have H' := Aside0.mk H
      clear H
      go_wp2
      go_meet
      case rel => exact ⟨_, (true), (by first | rfl | (simp; done) | (simp [*]; done)), H', ⟨by first | omega | exact Nat.le_refl _⟩, ⟨by (with_reducible repeat (first | apply Kd.R_alloc | apply Kd.R_drewN | apply Kd.R_drew)); exact HO392.out⟩, ⟨by (with_reducible repeat (first | refine blk_drewN ?_ _ | refine blk_drew ?_ | refine blk_alloc ?_ _)); exact BK387.out⟩, ⟨by (with_reducible repeat (first | refine blk_drewN ?_ _ | refine blk_drew ?_ | refine blk_alloc ?_ _)); exact BK388.out⟩, ⟨by repeat (first | (with_reducible first | exact HB.out | apply below_alloc | apply pw_below_drewN | apply below_drew1 | refine below_set ?_ GE387.out | refine below_set ?_ GE388.out) | exact HB.out)⟩⟩
  case rest =>
    clear HC5
    try clear c1
    try clear p2
    try clear c9
    try clear c10
    try clear c12
    try clear c12b0
    try clear c12b1
    try clear c13
    try clear c13b0
    try clear c14
    try clear c15
    try clear c16
    try clear hcz10_0
    try clear hcz10_1
    try clear hcz10_2
    try clear hcz15_0
    try clear hcz15_1
    try clear hcz17_0
    try clear hcz17_1
    try clear hfz10_0
    try clear hfz10_1
    try clear hfz10_2
    try clear hfz15_0
    try clear hfz15_1
    try clear hfz17_0
    try clear hfz17_1
    obtain ⟨kq, x29_4, rfl, HA, HJ4, HO_6, BK387, BK388, HB⟩ := hcut
    cases kq with
    | zero => exact absurd HA.out (by simp [strakelaw06_MarkTurned.j0])
    | succ kj4 =>
      have H := HA.out
      clear HA
      simp only [strakelaw06_MarkTurned.j0] at H
      by_cases c18 : x29_4 = true
      · subst c18
        have H1 : (some t389) = some r := by rw [if_pos rfl] at H; exact H
        clear H
        have H := H1
        clear H1
        obtain rfl := Option.some.inj H
        go_wp2
        go_ret
        exact ⟨by first | rfl | (simp [errW_none, errW_some] <;> rfl) | (simp [*, errW_none, errW_some] <;> rfl), by repeat (first | (with_reducible first | exact HB.out | apply below_alloc | apply pw_below_drewN | apply below_drew1 | refine below_set ?_ GE387.out | refine below_set ?_ GE388.out) | exact HB.out)⟩
      · replace c18 := Bool.eq_false_iff.mpr c18
        subst c18
        have H1 : (if (t390.length : Int) = 16 then ((some (([] : List Int) : List Int)).bind fun y394 => (if y394.length + t390.length < 140737488355328 then ((some (y394 ++ t390 : List Int)).bind fun y397 => (if 0 ≤ (Int.tmod a1_0 16) then (if (Int.tmod a1_0 16) < (y397.length : Int) then ((some (y397.set ((Int.tmod a1_0 16) : Int).toNat (Go.bits .xor .u8 (rd y397 (Int.tmod a1_0 16)) ((a1_1) % 256)) : List Int)).bind fun y401 => ((mark_Read.f kj4 y401).bind fun bt402 => (if bt402.2.2.2 = 0 then (if t389 = true then (some (!(bt402.1 == a0_0) || (!(bt402.2.1 == a0_1) || (!(bt402.2.2.1 == a0_2))))) else (some false)) else (if t389 = true then (if bt402.2.2.2 = 3 then (if (bt402.1 == 0 && (bt402.2.1 == 0 && (bt402.2.2.1 == 0))) = true then (if (Int.tmod a1_0 16) = 2 then (if 2 < (y397.length : Int) then (some (decide ((rd y401 2) > 63))) else (none)) else (some true)) else (some false)) else (some false)) else (some false))))) else (none)) else (none))) else (none))) else (some false)) = some r := by rw [if_neg (show ¬ (false = true) by decide)] at H; exact H
        clear H
        have H := H1
        clear H1
        by_cases c19 : (t390.length : Int) = 16
        · rw [if_pos c19] at H
          have c19b0 : ((t390.length : Int) == 16) = true := beq_iff_eq.mpr c19
          have c19b1 : ((t390.length : Int) != 16) = false := bne_eq_false_iff_eq.mpr c19
          clear c19
          obtain ⟨y394, hy394⟩ : ∃ y_ : List Int, y_ = (([] : List Int)) := ⟨_, rfl⟩
          replace H : (if y394.length + t390.length < 140737488355328 then ((some (y394 ++ t390 : List Int)).bind fun y397 => (if 0 ≤ (Int.tmod a1_0 16) then (if (Int.tmod a1_0 16) < (y397.length : Int) then ((some (y397.set ((Int.tmod a1_0 16) : Int).toNat (Go.bits .xor .u8 (rd y397 (Int.tmod a1_0 16)) ((a1_1) % 256)) : List Int)).bind fun y401 => ((mark_Read.f kj4 y401).bind fun bt402 => (if bt402.2.2.2 = 0 then (if t389 = true then (some (!(bt402.1 == a0_0) || (!(bt402.2.1 == a0_1) || (!(bt402.2.2.1 == a0_2))))) else (some false)) else (if t389 = true then (if bt402.2.2.2 = 3 then (if (bt402.1 == 0 && (bt402.2.1 == 0 && (bt402.2.2.1 == 0))) = true then (if (Int.tmod a1_0 16) = 2 then (if 2 < (y397.length : Int) then (some (decide ((rd y401 2) > 63))) else (none)) else (some true)) else (some false)) else (some false)) else (some false))))) else (none)) else (none))) else (none)) = some r := by first | (rw [hy394]; with_reducible exact H) | (have H2_ := (Option.bind_some _ _).symm.trans H; rw [hy394]; with_reducible exact H2_) | (have H2_ := (Option.bind_some _ _).symm.trans H; with_reducible exact H2_) | with_reducible exact H | (rw [hy394]; exact H) | exact H
          have Ny394 := Aside0.mk hy394
          clear hy394
          by_cases c20 : y394.length + t390.length < 140737488355328
          · rw [if_pos c20] at H
            have LMc20 := Aside0.mk c20
            clear c20
            obtain ⟨y397, hy397⟩ : ∃ y_ : List Int, y_ = (y394 ++ t390) := ⟨_, rfl⟩
            replace H : (if 0 ≤ (Int.tmod a1_0 16) then (if (Int.tmod a1_0 16) < (y397.length : Int) then ((some (y397.set ((Int.tmod a1_0 16) : Int).toNat (Go.bits .xor .u8 (rd y397 (Int.tmod a1_0 16)) ((a1_1) % 256)) : List Int)).bind fun y401 => ((mark_Read.f kj4 y401).bind fun bt402 => (if bt402.2.2.2 = 0 then (if t389 = true then (some (!(bt402.1 == a0_0) || (!(bt402.2.1 == a0_1) || (!(bt402.2.2.1 == a0_2))))) else (some false)) else (if t389 = true then (if bt402.2.2.2 = 3 then (if (bt402.1 == 0 && (bt402.2.1 == 0 && (bt402.2.2.1 == 0))) = true then (if (Int.tmod a1_0 16) = 2 then (if 2 < (y397.length : Int) then (some (decide ((rd y401 2) > 63))) else (none)) else (some true)) else (some false)) else (some false)) else (some false))))) else (none)) else (none)) = some r := by first | (rw [hy397]; with_reducible exact H) | (have H2_ := (Option.bind_some _ _).symm.trans H; rw [hy397]; with_reducible exact H2_) | (have H2_ := (Option.bind_some _ _).symm.trans H; with_reducible exact H2_) | with_reducible exact H | (rw [hy397]; exact H) | exact H
            have Ny397 := Aside0.mk hy397
            clear hy397
            obtain ⟨ji21, hji21⟩ : ∃ j_ : Int, (Int.tmod a1_0 16) = j_ := ⟨_, rfl⟩
            replace H : (if 0 ≤ (ji21) then (if (ji21) < (y397.length : Int) then ((some (y397.set ((ji21) : Int).toNat (Go.bits .xor .u8 (rd y397 (ji21)) ((a1_1) % 256)) : List Int)).bind fun y401 => ((mark_Read.f kj4 y401).bind fun bt402 => (if bt402.2.2.2 = 0 then (if t389 = true then (some (!(bt402.1 == a0_0) || (!(bt402.2.1 == a0_1) || (!(bt402.2.2.1 == a0_2))))) else (some false)) else (if t389 = true then (if bt402.2.2.2 = 3 then (if (bt402.1 == 0 && (bt402.2.1 == 0 && (bt402.2.2.1 == 0))) = true then (if (ji21) = 2 then (if 2 < (y397.length : Int) then (some (decide ((rd y401 2) > 63))) else (none)) else (some true)) else (some false)) else (some false)) else (some false))))) else (none)) else (none)) = some r := by first | (rw [hji21] at H; exact H) | (simp only [hji21] at H ⊢; exact H)
            by_cases c22 : 0 ≤ (ji21)
            · rw [if_pos c22] at H
              have c22b0 : decide (0 ≤ (ji21)) = true := decide_eq_true c22
              clear c22
              by_cases c23 : (ji21) < (y397.length : Int)
              · rw [if_pos c23] at H
                have c23b0 : decide ((ji21) < (y397.length : Int)) = true := decide_eq_true c23
                clear c23
                obtain ⟨y401, hy401⟩ : ∃ y_ : List Int, y_ = (y397.set ((ji21) : Int).toNat (Go.bits .xor .u8 (rd y397 (ji21)) ((a1_1) % 256))) := ⟨_, rfl⟩
                replace H : ((mark_Read.f kj4 y401).bind fun bt402 => (if bt402.2.2.2 = 0 then (if t389 = true then (some (!(bt402.1 == a0_0) || (!(bt402.2.1 == a0_1) || (!(bt402.2.2.1 == a0_2))))) else (some false)) else (if t389 = true then (if bt402.2.2.2 = 3 then (if (bt402.1 == 0 && (bt402.2.1 == 0 && (bt402.2.2.1 == 0))) = true then (if (ji21) = 2 then (if 2 < (y397.length : Int) then (some (decide ((rd y401 2) > 63))) else (none)) else (some true)) else (some false)) else (some false)) else (some false)))) = some r := by first | (rw [hy401]; with_reducible exact H) | (have H2_ := (Option.bind_some _ _).symm.trans H; rw [hy401]; with_reducible exact H2_) | (have H2_ := (Option.bind_some _ _).symm.trans H; with_reducible exact H2_) | with_reducible exact H | (rw [hy401]; exact H) | exact H
                have Ny401 := Aside0.mk hy401
                clear hy401
                replace H := Option.bind_eq_some_iff.mp H
                obtain ⟨⟨t402, t403, t404, t405⟩, A250, H⟩ := H
                replace H : (if t405 = 0 then (if t389 = true then (some (!(t402 == a0_0) || (!(t403 == a0_1) || (!(t404 == a0_2))))) else (some false)) else (if t389 = true then (if t405 = 3 then (if (t402 == 0 && (t403 == 0 && (t404 == 0))) = true then (if (ji21) = 2 then (if 2 < (y397.length : Int) then (some (decide ((rd y401 2) > 63))) else (none)) else (some true)) else (some false)) else (some false)) else (some false))) = some r := H
                have A25 := Aside0.mk A250
                clear A250
                by_cases c26 : t405 = 0
                · rw [if_pos c26] at H
                  have c26b0 : (t405 == 0) = true := beq_iff_eq.mpr c26
                  have c26b1 : (t405 != 0) = false := bne_eq_false_iff_eq.mpr c26
                  clear c26
                  by_cases c27 : t389 = true
                  · subst c27
                    have H1 : (some (!(t402 == a0_0) || (!(t403 == a0_1) || (!(t404 == a0_2))))) = some r := by rw [if_pos rfl] at H; exact H
                    clear H
                    have H := H1
                    clear H1
                    obtain rfl := Option.some.inj H
                    obtain ⟨Ao28, co28, eo28⟩ := Kd.R_slice HO_6.out
                    subst eo28
                    try go_wp2_with (first | ((with_reducible refine gate_dst (N := 34) rfl ?_); refine Kd.R_lit (Kd.int .u8) _ 5 ?hg (N := 34) ?hd (xs := ([] : List Int)) (inner := []) (ok := fun _ => True) (okp := fun _ => True) ?hr ?hp (fun _ hk => hk) trivial (Below.refl _ _) (Nat.le_refl _) (by simp) ?_; (case hd => rfl); (case hg => rfl); (case hr => first | (go_simp; done) | (go_simp; rfl)); (case hp => exact (Reps.none _ _)); intro v395 w29 ho30 hb hg_ hnew_; clear hg_ hnew_; (first | rw [← Ny394.out] at ho30 | (simp only [Int.reduceToNat] at ho30; rw [← Ny394.out] at ho30)); have n0_ := Aside0.mk (Kd.R_elder' (by (with_reducible repeat (first | apply Kd.R_alloc | apply Kd.R_drewN | apply Kd.R_drew)); exact HO_6.out) (Kd.R_base ho30) hb); have n1_ := Aside0.mk (Kd.R_lower (Kd.R_new' ho30 (Kd.R_lt (by (with_reducible repeat (first | apply Kd.R_alloc | apply Kd.R_drewN | apply Kd.R_drew)); exact HO_6.out))) (below_size (by repeat (first | (with_reducible first | exact HB.out | apply below_alloc | apply pw_below_drewN | apply below_drew1 | refine below_set ?_ GE387.out | refine below_set ?_ GE388.out) | exact HB.out)))); have n2_ := Aside0.mk (blk_below (g := gb387) (o := .cells #[.int .i64 a0_0, .int .i64 a0_1, .int .i64 a0_2] 23 (0, 0)) (by (with_reducible repeat (first | refine blk_drewN ?_ _ | refine blk_drew ?_ | refine blk_alloc ?_ _)); exact BK387.out) hb); have n3_ := Aside0.mk (blk_below (g := gb388) (o := .cells #[.int .i64 a1_0, .int .i64 a1_1] 45 (0, 0)) (by (with_reducible repeat (first | refine blk_drewN ?_ _ | refine blk_drew ?_ | refine blk_alloc ?_ _)); exact BK388.out) hb); have n4_ := Aside0.mk (below_step (by repeat (first | (with_reducible first | exact HB.out | apply below_alloc | apply pw_below_drewN | apply below_drew1 | refine below_set ?_ GE387.out | refine below_set ?_ GE388.out) | exact HB.out)) hb); clear HO_6; clear BK387; clear BK388; clear HB; have HO_6 := n0_; have HO396 := n1_; have BK387 := n2_; have BK388 := n3_; have HB := n4_; clear n0_ n1_ n2_ n3_ n4_; clear hb ho30) | ((with_reducible refine gate_builtin (b := .append) (xs := #[.tmp 34, .tmp 35]) rfl ?_); at_builtin; refine Kd.R_append_rows (Kd.int .u8) (w0 := w) w.heap.size rfl (.tmp 34) (.tmp 35) 25 5 (.int .u8 0) 1 rfl Try.underlying25 info5 rfl (by decide) (by omega) v395 y394 t390 _ _ _ (fun k_ => some k_ ≠ (.slice Ao28 t390.length co28 : Value).ownBlock) (fun _ => False) rfl rfl ?aO ?aR (fun _ _ h => h) (fun _ h => h.elim) ?aF ?aB ?aS ?aL ?_; (case aR => repeat (first | exact (Kd.R_reads' HO_6.out).2.2 | (with_reducible refine Kd.C_alloc ?_ _) | (with_reducible refine Kd.C_drewN ?_ _) | (with_reducible refine Kd.C_drew ?_))); (case aB => exact (by repeat (first | (with_reducible first | exact HB.out | apply below_alloc | apply pw_below_drewN | apply below_drew1 | refine below_set ?_ GE387.out | refine below_set ?_ GE388.out) | exact HB.out))); (case aF => exact (fun k_ hk => Kd.fresh' (Kd.R_lt (by (with_reducible repeat (first | apply Kd.R_alloc | apply Kd.R_drewN | apply Kd.R_drew)); exact HO_6.out)) k_ hk)); (case aO => exact (by (with_reducible repeat (first | apply Kd.R_alloc | apply Kd.R_drewN | apply Kd.R_drew)); exact Kd.R_mono HO396.out (fun _ hk => hk.2))); (case aS => exact (below_size (by repeat (first | (with_reducible first | exact HB.out | apply below_alloc | apply pw_below_drewN | apply below_drew1 | refine below_set ?_ GE387.out | refine below_set ?_ GE388.out) | exact HB.out)))); (case aL => have := LMc20.out; omega); intro v398 w31 ho hb hg hat; rw [← Ny397.out] at ho; have n0_ := Aside0.mk (Kd.R_after (ok := (fun _ => True)) (by (with_reducible repeat (first | apply Kd.R_alloc | apply Kd.R_drewN | apply Kd.R_drew)); exact HO_6.out) hg hat); have n1_ := Aside0.mk (blk_grown (g := gb387) (o := .cells #[.int .i64 a0_0, .int .i64 a0_1, .int .i64 a0_2] 23 (0, 0)) (by (with_reducible repeat (first | refine blk_drewN ?_ _ | refine blk_drew ?_ | refine blk_alloc ?_ _)); exact BK387.out) hg (Kd.R_ne HO396.out BK387.out (by decide))); have n2_ := Aside0.mk (blk_grown (g := gb388) (o := .cells #[.int .i64 a1_0, .int .i64 a1_1] 45 (0, 0)) (by (with_reducible repeat (first | refine blk_drewN ?_ _ | refine blk_drew ?_ | refine blk_alloc ?_ _)); exact BK388.out) hg (Kd.R_ne HO396.out BK388.out (by decide))); have n3_ := Aside0.mk (hb); have n4_ := Aside0.mk (ho); clear HO_6; clear BK387; clear BK388; clear HB; clear HO396; have HO_6 := n0_; have BK387 := n1_; have BK388 := n2_; have HB := n3_; have HO399 := n4_; clear n0_ n1_ n2_ n3_ n4_; clear ho hb hg hat))
                    (try (rw [drewN_self w31]; generalize hq_ : World.drewN w31 _ = w31; have n0_ : Aside0 (Kd.R (Kd.int .u8) 5 w31 w.heap.size (fun k_ => some k_ ≠ (.slice Ao28 t390.length co28 : Value).ownBlock) v398 y397) := ⟨by rw [← hq_]; exact (by (with_reducible repeat (first | apply Kd.R_alloc | apply Kd.R_drewN | apply Kd.R_drew)); exact HO399.out)⟩; have n1_ : Aside0 (Kd.R (Kd.int .u8) 5 w31 w.heap.size (fun k_ => some k_ ≠ (v398 : Value).ownBlock) (.slice Ao28 t390.length co28) t390) := ⟨by rw [← hq_]; exact (by (with_reducible repeat (first | apply Kd.R_alloc | apply Kd.R_drewN | apply Kd.R_drew)); exact Kd.R_mono HO_6.out (fun _ hk => hk.2))⟩; have n2_ : Aside0 (w31.heap[gb387]? = some (.cells #[.int .i64 a0_0, .int .i64 a0_1, .int .i64 a0_2] 23 (0, 0))) := ⟨by rw [← hq_]; exact (by (with_reducible repeat (first | refine blk_drewN ?_ _ | refine blk_drew ?_ | refine blk_alloc ?_ _)); exact BK387.out)⟩; have n3_ : Aside0 (w31.heap[gb388]? = some (.cells #[.int .i64 a1_0, .int .i64 a1_1] 45 (0, 0))) := ⟨by rw [← hq_]; exact (by (with_reducible repeat (first | refine blk_drewN ?_ _ | refine blk_drew ?_ | refine blk_alloc ?_ _)); exact BK388.out)⟩; have n4_ : Aside0 (Below w.heap.size w w31) := ⟨by rw [← hq_]; exact (by repeat (first | (with_reducible first | exact HB.out | apply below_alloc | apply pw_below_drewN | apply below_drew1 | refine below_set ?_ GE387.out | refine below_set ?_ GE388.out) | exact HB.out))⟩; clear HO399 HO_6 BK387 BK388 HB hq_; have HO399 := n0_; have HO_6 := n1_; have BK387 := n2_; have BK388 := n3_; have HB := n4_; clear n0_ n1_ n2_ n3_ n4_))
                    have n0_ := Aside0.mk (Kd.R_drew HO_6.out)
                    have n1_ := Aside0.mk (Kd.R_drew HO399.out)
                    have n2_ := Aside0.mk (blk_drew BK387.out)
                    have n3_ := Aside0.mk (blk_drew BK388.out)
                    have n4_ := Aside0.mk (below_drew1 HB.out)
                    clear HO_6
                    clear HO399
                    clear BK387
                    clear BK388
                    clear HB
                    have HO_6 := n0_
                    have HO399 := n1_
                    have BK387 := n2_
                    have BK388 := n3_
                    have HB := n4_
                    clear n0_ n1_ n2_ n3_ n4_
                    obtain ⟨Ao33, co33, eo33⟩ := Kd.R_slice HO399.out
                    (first | subst eo33 | (injection eo33 with f1_ f2_ f3_; have f4_ := f1_.symm; have f5_ := f3_.symm; clear f1_ f2_ f3_; subst f4_; subst f5_))
                    have p400 : 0 ≤ ((ji21) : Int) := of_decide_eq_true (by first | (with_reducible assumption) | assumption)
                    have q400 : (ji21) < (y397.length : Int) := of_decide_eq_true (by first | (with_reducible assumption) | assumption)
                    obtain ⟨ad400, e400, hx400_0⟩ := Kd.at_int (Kd.R_reads' HO399.out).2.2 (ji21) p400 q400
                    cases e400
                    replace p400 := eq_true p400
                    replace q400 := eq_true q400
                    have p24 : 0 ≤ ((ji21) : Int) := of_decide_eq_true (by first | (with_reducible assumption) | assumption)
                    have q24 : ((ji21) : Int) < ((y397.length : Int) : Int) := of_decide_eq_true (by first | (with_reducible assumption) | assumption)
                    obtain ⟨go24, co24, eo24, gb24, gl24, cl24, HG24⟩ := Kd.R_form HO399.out (by omega)
                    (first | cases eo24 | (injection eo24 with ea_ en_ ec_; (first | subst ea_ | (injection ea_ with ea_; subst ea_)); subst ec_; clear en_))
                    have GB24 := Aside0.mk gb24
                    have GG24 := Aside0.mk HG24
                    clear gb24 gl24 HG24
                    (first | simp only [add_plain] at hx400_0 | skip)
                    obtain ⟨hx24_0, hf24_0⟩ := Kd.R_celln 0 HO399.out ((ji21) : Int) p24 q24
                    replace p24 := eq_true p24
                    replace q24 := eq_true q24
                    have HP34 := Kd.R_putn HO399.out ((ji21) : Int) (Go.bits .xor .u8 (rd y397 (ji21)) ((a1_1) % 256))
                    rw [← Ny401.out] at HP34
                    have HQ34 := Aside0.mk HP34
                    clear HP34
                    refine start_ (n := 16) (S := fun w' => w'.cell? ⟨gb388, 0, none⟩ = some (.int .i64 a1_0) ∧ w'.cell? ⟨gb388, 1, none⟩ = some (.int .i64 a1_1) ∧ w'.cell? ⟨go24, ((ji21)).toNat, none⟩ = some (.int .u8 (rd y397 (ji21)))) (ds := [15]) #[false, false, false, false, false, false, false, false, false, false, false, false, false, false, false, false] (by kernel_rfl) rfl rfl ⟨(blk_cell BK388.out 0).trans rfl, (blk_cell BK388.out 1).trans rfl, hx400_0⟩ (fun hHeld => ?_); refine with_tabW strakelaw06_MarkTurned.tab8 strakelaw06_MarkTurned.bits8 (fun HT_ HW_ => ?_)
                    generalize w31.drew = w32 at HO_6 HO399 BK387 BK388 HB GG24 HQ34 hf24_0 hx24_0 hx400_0 hHeld ⊢
                    refine pure_ (i := 0) (N := some 37) (v := ?_) (a' := ?_) #[true, false, false, false, false, false, false, false, false, false, false, false, false, false, false, false] rfl rfl (any_of HT_.out (by kernel_rfl)) (fun _ _ _ h => h) (Or.inl ⟨by rfl, ?_⟩) ?_ ?_
                    rotate_left
                    · intro w'
                      go_simp
                      with_reducible rfl
                    rotate_left
                    · simp only [Act.put, List.setIfInBounds_toArray, List.set_cons_zero, List.set_cons_succ, i64_w, i32_w]
                      rfl
                    refine pure_ (i := 1) (N := some 38) (v := ?_) (a' := ?_) #[true, true, false, false, false, false, false, false, false, false, false, false, false, false, false, false] rfl rfl (any_of HT_.out (by kernel_rfl)) (fun _ _ _ h => h) (Or.inl ⟨by rfl, ?_⟩) ?_ ?_
                    rotate_left
                    · intro w'
                      go_simp
                      with_reducible rfl
                    rotate_left
                    · simp only [Act.put, List.setIfInBounds_toArray, List.set_cons_zero, List.set_cons_succ, i64_w, i32_w]
                      rfl
                    refine pure_ (i := 4) (N := some 41) (v := ?_) (a' := ?_) #[true, true, false, false, true, false, false, false, false, false, false, false, false, false, false, false] rfl rfl (any_of HT_.out (by kernel_rfl)) (fun _ _ _ h => h) (Or.inl ⟨by rfl, ?_⟩) ?_ ?_
                    rotate_left
                    · intro w'
                      go_simp
                      with_reducible rfl
                    rotate_left
                    · simp only [Act.put, List.setIfInBounds_toArray, List.set_cons_zero, List.set_cons_succ, i64_w, i32_w]
                      rfl
                    refine pure_ (i := 5) (N := some 42) (v := ?_) (a' := ?_) #[true, true, false, false, true, true, false, false, false, false, false, false, false, false, false, false] rfl rfl (any_of HT_.out (by kernel_rfl)) (fun _ _ _ h => h) (Or.inl ⟨by rfl, ?_⟩) ?_ ?_
                    rotate_left
                    · intro w'
                      go_simp
                      with_reducible rfl
                    rotate_left
                    · simp only [Act.put, List.setIfInBounds_toArray, List.set_cons_zero, List.set_cons_succ, i64_w, i32_w]
                      rfl
                    refine pure_ (i := 10) (N := some 47) (v := ?_) (a' := ?_) #[true, true, false, false, true, true, false, false, false, false, true, false, false, false, false, false] rfl rfl (any_of HT_.out (by kernel_rfl)) (fun _ _ _ h => h) (Or.inl ⟨by rfl, ?_⟩) ?_ ?_
                    rotate_left
                    · intro w'
                      go_simp
                      with_reducible rfl
                    rotate_left
                    · simp only [Act.put, List.setIfInBounds_toArray, List.set_cons_zero, List.set_cons_succ, i64_w, i32_w]
                      rfl
                    refine take_ (i := 2) (N := some 39) (v := ?_) (a' := ?_) #[true, true, true, false, true, true, false, false, false, false, true, false, false, false, false, false] rfl rfl (take_ofW HT_.out HW_.out (by kernel_rfl)) (fun _ _ _ h => h) (Or.inl ⟨by rfl, ?_⟩) hHeld ?_ ?_
                    rotate_left
                    · rintro w' ⟨s0, s1, s2⟩
                      go_simp
                      with_reducible rfl
                    rotate_left
                    · simp only [Act.put, List.setIfInBounds_toArray, List.set_cons_zero, List.set_cons_succ, i64_w, i32_w]
                      rfl
                    refine pure_ (i := 3) (N := some 40) (v := ?_) (a' := ?_) #[true, true, true, true, true, true, false, false, false, false, true, false, false, false, false, false] rfl rfl (any_of HT_.out (by kernel_rfl)) (fun _ _ _ h => h) (Or.inl ⟨by rfl, ?_⟩) ?_ ?_
                    rotate_left
                    · intro w'
                      go_simp
                      with_reducible rfl
                    rotate_left
                    · simp only [Act.put, List.setIfInBounds_toArray, List.set_cons_zero, List.set_cons_succ, i64_w, i32_w]
                      rfl
                    refine take_ (i := 6) (N := some 43) (v := ?_) (a' := ?_) #[true, true, true, true, true, true, true, false, false, false, true, false, false, false, false, false] rfl rfl (take_ofW HT_.out HW_.out (by kernel_rfl)) (fun _ _ _ h => h) (Or.inl ⟨by rfl, ?_⟩) hHeld ?_ ?_
                    rotate_left
                    · rintro w' ⟨s0, s1, s2⟩
                      go_simp
                      with_reducible rfl
                    rotate_left
                    · simp only [Act.put, List.setIfInBounds_toArray, List.set_cons_zero, List.set_cons_succ, i64_w, i32_w]
                      rfl
                    refine pure_ (i := 7) (N := some 44) (v := ?_) (a' := ?_) #[true, true, true, true, true, true, true, true, false, false, true, false, false, false, false, false] rfl rfl (any_of HT_.out (by kernel_rfl)) (fun _ _ _ h => h) (Or.inl ⟨by rfl, ?_⟩) ?_ ?_
                    rotate_left
                    · intro w'
                      go_simp
                      with_reducible rfl
                    rotate_left
                    · simp only [Act.put, List.setIfInBounds_toArray, List.set_cons_zero, List.set_cons_succ, i64_w, i32_w]
                      rfl
                    refine pure_ (i := 8) (N := some 45) (v := ?_) (a' := ?_) #[true, true, true, true, true, true, true, true, true, false, true, false, false, false, false, false] rfl rfl (any_of HT_.out (by kernel_rfl)) (fun _ _ _ h => h) (Or.inl ⟨by rfl, ?_⟩) ?_ ?_
                    rotate_left
                    · intro w'
                      go_simp
                      with_reducible rfl
                    rotate_left
                    · simp only [Act.put, List.setIfInBounds_toArray, List.set_cons_zero, List.set_cons_succ, i64_w, i32_w]
                      rfl
                    refine take_ (i := 9) (N := some 46) (v := ?_) (a' := ?_) #[true, true, true, true, true, true, true, true, true, true, true, false, false, false, false, false] rfl rfl (take_ofW HT_.out HW_.out (by kernel_rfl)) (fun _ _ _ h => h) (Or.inl ⟨by rfl, ?_⟩) hHeld ?_ ?_
                    rotate_left
                    · rintro w' ⟨s0, s1, s2⟩
                      go_simp
                      with_reducible rfl
                    rotate_left
                    · simp only [Act.put, List.setIfInBounds_toArray, List.set_cons_zero, List.set_cons_succ, i64_w, i32_w]
                      rfl
                    refine take_ (i := 11) (N := some 48) (v := ?_) (a' := ?_) #[true, true, true, true, true, true, true, true, true, true, true, true, false, false, false, false] rfl rfl (take_ofW HT_.out HW_.out (by kernel_rfl)) (fun _ _ _ h => h) (Or.inl ⟨by rfl, ?_⟩) hHeld ?_ ?_
                    rotate_left
                    · rintro w' ⟨s0, s1, s2⟩
                      go_simp
                      with_reducible rfl
                    rotate_left
                    · simp only [Act.put, List.setIfInBounds_toArray, List.set_cons_zero, List.set_cons_succ, i64_w, i32_w]
                      rfl
                    refine pure_ (i := 12) (N := some 49) (v := ?_) (a' := ?_) #[true, true, true, true, true, true, true, true, true, true, true, true, true, false, false, false] rfl rfl (any_of HT_.out (by kernel_rfl)) (fun _ _ _ h => h) (Or.inl ⟨by rfl, ?_⟩) ?_ ?_
                    rotate_left
                    · intro w'
                      go_simp
                      with_reducible rfl
                    rotate_left
                    · simp only [Act.put, List.setIfInBounds_toArray, List.set_cons_zero, List.set_cons_succ, i64_w, i32_w]
                      rfl
                    refine pure_ (i := 13) (N := some 50) (v := ?_) (a' := ?_) #[true, true, true, true, true, true, true, true, true, true, true, true, true, true, false, false] rfl rfl (any_of HT_.out (by kernel_rfl)) (fun _ _ _ h => h) (Or.inl ⟨by rfl, ?_⟩) ?_ ?_
                    rotate_left
                    · intro w'
                      go_simp
                      with_reducible rfl
                    rotate_left
                    · simp only [Act.put, List.setIfInBounds_toArray, List.set_cons_zero, List.set_cons_succ, i64_w, i32_w]
                      rfl
                    refine pure_ (i := 14) (N := some 51) (v := ?_) (a' := ?_) #[true, true, true, true, true, true, true, true, true, true, true, true, true, true, true, false] rfl rfl (any_of HT_.out (by kernel_rfl)) (fun _ _ _ h => h) (Or.inl ⟨by rfl, ?_⟩) ?_ ?_
                    rotate_left
                    · intro w'
                      go_simp
                      with_reducible rfl
                    rotate_left
                    · simp only [Act.put, List.setIfInBounds_toArray, List.set_cons_zero, List.set_cons_succ, i64_w, i32_w]
                      rfl
                    refine last_ (i := 15) (N := none) #[true, true, true, true, true, true, true, true, true, true, true, true, true, true, true, true] rfl rfl (one_of HT_.out (by kernel_rfl)) (by decide) (fun K hK => ?_)
                    refine skip_ (w1 := ?_) (by rfl) rfl ?_ ?_
                    rotate_left
                    · go_simp
                      rfl
                    refine hK.out _ _ ?_
                    clear hK K
                    refine done_ (done_of HT_.out (by kernel_rfl)) ?_
                    have n0_ : Aside0 (Kd.R (Kd.int .u8) 5 (w32.setCell ⟨go24, ((ji21) : Int).toNat, none⟩ (.int .u8 (Go.bits .xor .u8 (rd y397 (ji21)) ((a1_1) % 256)))) w.heap.size (fun k_ => some k_ ≠ (.slice (some ⟨go24, 0, none⟩) y397.length co33 : Value).ownBlock) (.slice Ao28 t390.length co28) t390) := ⟨by (with_reducible repeat (first | apply Kd.R_alloc | apply Kd.R_drewN | apply Kd.R_drew)); exact Kd.R_mono (Kd.R_far (p := ⟨go24, ((ji21) : Int).toNat, none⟩) (Kd.R_mono HO_6.out (fun k_ hk => (⟨hk, fun e_ => hk.2 (by rw [e_]; rfl)⟩ : _ ∧ k_ ≠ go24))) (fun _ hk => hk.2) (.int .u8 (Go.bits .xor .u8 (rd y397 (ji21)) ((a1_1) % 256)))) (fun _ hk => hk.1.2)⟩
                    have n1_ : Aside0 (Kd.R (Kd.int .u8) 5 (w32.setCell ⟨go24, ((ji21) : Int).toNat, none⟩ (.int .u8 (Go.bits .xor .u8 (rd y397 (ji21)) ((a1_1) % 256)))) w.heap.size (fun k_ => some k_ ≠ (.slice Ao28 t390.length co28 : Value).ownBlock) (.slice (some ⟨go24, 0, none⟩) y397.length co33) y401) := ⟨by (with_reducible repeat (first | apply Kd.R_alloc | apply Kd.R_drewN | apply Kd.R_drew)); exact HQ34.out⟩
                    have n2_ : Aside0 ((w32.setCell ⟨go24, ((ji21) : Int).toNat, none⟩ (.int .u8 (Go.bits .xor .u8 (rd y397 (ji21)) ((a1_1) % 256)))).heap[gb387]? = some (.cells #[.int .i64 a0_0, .int .i64 a0_1, .int .i64 a0_2] 23 (0, 0))) := ⟨by (with_reducible repeat (first | refine blk_drewN ?_ _ | refine blk_drew ?_ | refine blk_alloc ?_ _)); refine blk_far ?_ (by have h_ := Kd.R_ne HO399.out BK387.out (by decide); intro e_; exact h_ (by rw [e_]; rfl)) _; (with_reducible repeat (first | refine blk_drewN ?_ _ | refine blk_drew ?_ | refine blk_alloc ?_ _)); exact BK387.out⟩
                    have n3_ : Aside0 ((w32.setCell ⟨go24, ((ji21) : Int).toNat, none⟩ (.int .u8 (Go.bits .xor .u8 (rd y397 (ji21)) ((a1_1) % 256)))).heap[gb388]? = some (.cells #[.int .i64 a1_0, .int .i64 a1_1] 45 (0, 0))) := ⟨by (with_reducible repeat (first | refine blk_drewN ?_ _ | refine blk_drew ?_ | refine blk_alloc ?_ _)); refine blk_far ?_ (by have h_ := Kd.R_ne HO399.out BK388.out (by decide); intro e_; exact h_ (by rw [e_]; rfl)) _; (with_reducible repeat (first | refine blk_drewN ?_ _ | refine blk_drew ?_ | refine blk_alloc ?_ _)); exact BK388.out⟩
                    have n4_ : Aside0 (Below w.heap.size w (w32.setCell ⟨go24, ((ji21) : Int).toNat, none⟩ (.int .u8 (Go.bits .xor .u8 (rd y397 (ji21)) ((a1_1) % 256))))) := ⟨by repeat (first | (with_reducible first | exact HB.out | apply below_alloc | apply pw_below_drewN | apply below_drew1 | refine below_set ?_ GB24.out | refine below_set ?_ GE387.out | refine below_set ?_ GE388.out) | exact HB.out)⟩
                    (try clear HO_6)
                    (try clear HO399)
                    (try clear BK387)
                    (try clear BK388)
                    (try clear HB)
                    (try simp only [IntKind.wrap_u8, IntKind.wrap_u32])
                    generalize (w32.setCell ⟨go24, ((ji21) : Int).toNat, none⟩ (.int .u8 (Go.bits .xor .u8 (rd y397 (ji21)) ((a1_1) % 256)))) = w35 at n0_ n1_ n2_ n3_ n4_ ⊢
                    have HO_6 := n0_
                    have HO399 := n1_
                    have BK387 := n2_
                    have BK388 := n3_
                    have HB := n4_
                    clear n0_ n1_ n2_ n3_ n4_
                    try go_wp2_with (first | ((with_reducible refine gate_callee (f := 28) rfl ?_); refine goesL_ (some 54) rfl rfl Try.func28 (by kernel_rfl) rfl #[.slice (some ⟨go24, 0, none⟩) y401.length co33] rfl (by (try simp only [List.map_toArray, List.map_cons, List.map_nil]); first | done | (rw [show y401.length = y397.length from (Kd.R_reads' HO399.out).1.symm] <;> rfl) | rfl | (simp only [List.length_drop, List.length_take]; rfl)) ?_; (with_reducible refine (mark_Read.calls kj4 _ _ y401 t402 t403 t404 t405 _ ?side1 ?side2 A25.out).mono ?_); (case side1 => repeat (first | exact (Kd.R_reads' HO399.out).2.2 | (with_reducible refine Kd.C_alloc ?_ _) | (with_reducible refine Kd.C_drewN ?_ _) | (with_reducible refine Kd.C_drew ?_))); (case side2 => rw [show y401.length = y397.length from (Kd.R_reads' HO399.out).1.symm]; exact (Kd.R_reads' HO399.out).2.1); rintro e w36 ⟨rfl, hb⟩; refine ⟨_, rfl, ?_⟩; have n0_ := Aside0.mk (Kd.R_below (by (with_reducible repeat (first | apply Kd.R_alloc | apply Kd.R_drewN | apply Kd.R_drew)); exact HO_6.out) hb); have n1_ := Aside0.mk (Kd.R_below (by (with_reducible repeat (first | apply Kd.R_alloc | apply Kd.R_drewN | apply Kd.R_drew)); exact HO399.out) hb); have n2_ := Aside0.mk (blk_below (g := gb387) (o := .cells #[.int .i64 a0_0, .int .i64 a0_1, .int .i64 a0_2] 23 (0, 0)) (by (with_reducible repeat (first | refine blk_drewN ?_ _ | refine blk_drew ?_ | refine blk_alloc ?_ _)); exact BK387.out) hb); have n3_ := Aside0.mk (blk_below (g := gb388) (o := .cells #[.int .i64 a1_0, .int .i64 a1_1] 45 (0, 0)) (by (with_reducible repeat (first | refine blk_drewN ?_ _ | refine blk_drew ?_ | refine blk_alloc ?_ _)); exact BK388.out) hb); have n4_ := Aside0.mk (below_step (by repeat (first | (with_reducible first | exact HB.out | apply below_alloc | apply pw_below_drewN | apply below_drew1 | refine below_set ?_ GE387.out | refine below_set ?_ GE388.out) | exact HB.out)) hb); clear HO_6; clear HO399; clear BK387; clear BK388; clear HB; have HO_6 := n0_; have HO399 := n1_; have BK387 := n2_; have BK388 := n3_; have HB := n4_; clear n0_ n1_ n2_ n3_ n4_; (try clear hb); (try clear hb2); (try clear hk); (try clear hi)) | ((with_reducible refine gate_dst (N := 9) rfl ?_); refine box_event ?hg (N := 9) ?hd (cs := #[.int .i64 0, .int .i64 0, .int .i64 0]) (t := 23) ?hr ?_; (case hd => rfl); (case hg => rfl); (case hr => first | (go_simp; done) | (go_simp; rfl)); intro gb406 hg w37 hbox hb; have n0_ := Aside0.mk (Kd.R_below (by (with_reducible repeat (first | apply Kd.R_alloc | apply Kd.R_drewN | apply Kd.R_drew)); exact HO_6.out) hb); have n1_ := Aside0.mk (Kd.R_below (by (with_reducible repeat (first | apply Kd.R_alloc | apply Kd.R_drewN | apply Kd.R_drew)); exact HO399.out) hb); have n2_ := Aside0.mk (blk_below (g := gb387) (o := .cells #[.int .i64 a0_0, .int .i64 a0_1, .int .i64 a0_2] 23 (0, 0)) (by (with_reducible repeat (first | refine blk_drewN ?_ _ | refine blk_drew ?_ | refine blk_alloc ?_ _)); exact BK387.out) hb); have n3_ := Aside0.mk (blk_below (g := gb388) (o := .cells #[.int .i64 a1_0, .int .i64 a1_1] 45 (0, 0)) (by (with_reducible repeat (first | refine blk_drewN ?_ _ | refine blk_drew ?_ | refine blk_alloc ?_ _)); exact BK388.out) hb); have n4_ := Aside0.mk (below_step (by repeat (first | (with_reducible first | exact HB.out | apply below_alloc | apply pw_below_drewN | apply below_drew1 | refine below_set ?_ GE387.out | refine below_set ?_ GE388.out) | exact HB.out)) hb); have n5_ := Aside0.mk (hbox); have n6_ := Aside0.mk ((by rw [hg]; exact (below_size (by repeat (first | (with_reducible first | exact HB.out | apply below_alloc | apply pw_below_drewN | apply below_drew1 | refine below_set ?_ GE387.out | refine below_set ?_ GE388.out) | exact HB.out))) : w.heap.size ≤ gb406)); have n7_ := Aside0.mk ((by rw [hg]; exact (below_size (by repeat (first | (with_reducible first | exact HB.out | apply below_alloc | apply pw_below_drewN | apply below_drew1 | refine below_set ?_ GE387.out | refine below_set ?_ GE388.out) | exact HB.out))) : w.heap.size ≤ gb406)); have n8_ := Aside0.mk ((by rw [hg]; exact Nat.ne_of_lt (blk_lt (g := gb387) (o := .cells #[.int .i64 a0_0, .int .i64 a0_1, .int .i64 a0_2] 23 (0, 0)) (by (with_reducible repeat (first | refine blk_drewN ?_ _ | refine blk_drew ?_ | refine blk_alloc ?_ _)); exact BK387.out)) : gb387 ≠ gb406)); have n9_ := Aside0.mk ((by rw [hg]; exact Nat.ne_of_gt (blk_lt (g := gb387) (o := .cells #[.int .i64 a0_0, .int .i64 a0_1, .int .i64 a0_2] 23 (0, 0)) (by (with_reducible repeat (first | refine blk_drewN ?_ _ | refine blk_drew ?_ | refine blk_alloc ?_ _)); exact BK387.out)) : gb406 ≠ gb387)); have n10_ := Aside0.mk ((by rw [hg]; exact Nat.ne_of_lt (blk_lt (g := gb388) (o := .cells #[.int .i64 a1_0, .int .i64 a1_1] 45 (0, 0)) (by (with_reducible repeat (first | refine blk_drewN ?_ _ | refine blk_drew ?_ | refine blk_alloc ?_ _)); exact BK388.out)) : gb388 ≠ gb406)); have n11_ := Aside0.mk ((by rw [hg]; exact Nat.ne_of_gt (blk_lt (g := gb388) (o := .cells #[.int .i64 a1_0, .int .i64 a1_1] 45 (0, 0)) (by (with_reducible repeat (first | refine blk_drewN ?_ _ | refine blk_drew ?_ | refine blk_alloc ?_ _)); exact BK388.out)) : gb406 ≠ gb388)); clear HO_6; clear HO399; clear BK387; clear BK388; clear HB; have HO_6 := n0_; have HO399 := n1_; have BK387 := n2_; have BK388 := n3_; have HB := n4_; have BK406 := n5_; have GW406 := n6_; have GE406 := n7_; have NB387_406 := n8_; have NB406_387 := n9_; have NB388_406 := n10_; have NB406_388 := n11_; clear n0_ n1_ n2_ n3_ n4_ n5_ n6_ n7_ n8_ n9_ n10_ n11_; clear hb hbox hg; have hnb38 := NB406_387.out; have hnc38 := NB387_406.out; have hnb39 := NB406_388.out; have hnc39 := NB388_406.out; have hcz40_0 : w37.cell? ⟨gb406, 0, none⟩ = some (.int .i64 0) := (blk_cell BK406.out 0).trans rfl; have hcz40_1 : w37.cell? ⟨gb406, 1, none⟩ = some (.int .i64 0) := (blk_cell BK406.out 1).trans rfl; have hcz40_2 : w37.cell? ⟨gb406, 2, none⟩ = some (.int .i64 0) := (blk_cell BK406.out 2).trans rfl; have hfz40_0 := blk_frozen BK406.out 0; have hfz40_1 := blk_frozen BK406.out 1; have hfz40_2 := blk_frozen BK406.out 2; have hnb41 := NB387_388.out; have hnc41 := NB388_387.out; have hcz42_0 : w37.cell? ⟨gb387, 0, none⟩ = some (.int .i64 a0_0) := (blk_cell BK387.out 0).trans rfl; have hcz42_1 : w37.cell? ⟨gb387, 1, none⟩ = some (.int .i64 a0_1) := (blk_cell BK387.out 1).trans rfl; have hcz42_2 : w37.cell? ⟨gb387, 2, none⟩ = some (.int .i64 a0_2) := (blk_cell BK387.out 2).trans rfl; have hfz42_0 := blk_frozen BK387.out 0; have hfz42_1 := blk_frozen BK387.out 1; have hfz42_2 := blk_frozen BK387.out 2))
                    go_ret
                    exact ⟨by first | rfl | (simp [errW_none, errW_some] <;> rfl) | (simp only [← hji21]; first | rfl | (simp [errW_none, errW_some] <;> rfl)) | (simp [*, errW_none, errW_some] <;> rfl), by repeat (first | (with_reducible first | exact HB.out | apply below_alloc | apply pw_below_drewN | apply below_drew1 | refine below_set ?_ GE387.out | refine below_set ?_ GE388.out | refine below_set ?_ GE406.out) | exact HB.out)⟩
                  · replace c27 := Bool.eq_false_iff.mpr c27
                    subst c27
                    have H1 : (some false) = some r := by rw [if_neg (show ¬ (false = true) by decide)] at H; exact H
                    clear H
                    have H := H1
                    clear H1
                    obtain rfl := Option.some.inj H
                    obtain ⟨Ao43, co43, eo43⟩ := Kd.R_slice HO_6.out
                    subst eo43
                    try go_wp2_with (first | ((with_reducible refine gate_dst (N := 34) rfl ?_); refine Kd.R_lit (Kd.int .u8) _ 5 ?hg (N := 34) ?hd (xs := ([] : List Int)) (inner := []) (ok := fun _ => True) (okp := fun _ => True) ?hr ?hp (fun _ hk => hk) trivial (Below.refl _ _) (Nat.le_refl _) (by simp) ?_; (case hd => rfl); (case hg => rfl); (case hr => first | (go_simp; done) | (go_simp; rfl)); (case hp => exact (Reps.none _ _)); intro v395 w44 ho45 hb hg_ hnew_; clear hg_ hnew_; (first | rw [← Ny394.out] at ho45 | (simp only [Int.reduceToNat] at ho45; rw [← Ny394.out] at ho45)); have n0_ := Aside0.mk (Kd.R_elder' (by (with_reducible repeat (first | apply Kd.R_alloc | apply Kd.R_drewN | apply Kd.R_drew)); exact HO_6.out) (Kd.R_base ho45) hb); have n1_ := Aside0.mk (Kd.R_lower (Kd.R_new' ho45 (Kd.R_lt (by (with_reducible repeat (first | apply Kd.R_alloc | apply Kd.R_drewN | apply Kd.R_drew)); exact HO_6.out))) (below_size (by repeat (first | (with_reducible first | exact HB.out | apply below_alloc | apply pw_below_drewN | apply below_drew1 | refine below_set ?_ GE387.out | refine below_set ?_ GE388.out) | exact HB.out)))); have n2_ := Aside0.mk (blk_below (g := gb387) (o := .cells #[.int .i64 a0_0, .int .i64 a0_1, .int .i64 a0_2] 23 (0, 0)) (by (with_reducible repeat (first | refine blk_drewN ?_ _ | refine blk_drew ?_ | refine blk_alloc ?_ _)); exact BK387.out) hb); have n3_ := Aside0.mk (blk_below (g := gb388) (o := .cells #[.int .i64 a1_0, .int .i64 a1_1] 45 (0, 0)) (by (with_reducible repeat (first | refine blk_drewN ?_ _ | refine blk_drew ?_ | refine blk_alloc ?_ _)); exact BK388.out) hb); have n4_ := Aside0.mk (below_step (by repeat (first | (with_reducible first | exact HB.out | apply below_alloc | apply pw_below_drewN | apply below_drew1 | refine below_set ?_ GE387.out | refine below_set ?_ GE388.out) | exact HB.out)) hb); clear HO_6; clear BK387; clear BK388; clear HB; have HO_6 := n0_; have HO396 := n1_; have BK387 := n2_; have BK388 := n3_; have HB := n4_; clear n0_ n1_ n2_ n3_ n4_; clear hb ho45) | ((with_reducible refine gate_builtin (b := .append) (xs := #[.tmp 34, .tmp 35]) rfl ?_); at_builtin; refine Kd.R_append_rows (Kd.int .u8) (w0 := w) w.heap.size rfl (.tmp 34) (.tmp 35) 25 5 (.int .u8 0) 1 rfl Try.underlying25 info5 rfl (by decide) (by omega) v395 y394 t390 _ _ _ (fun k_ => some k_ ≠ (.slice Ao43 t390.length co43 : Value).ownBlock) (fun _ => False) rfl rfl ?aO ?aR (fun _ _ h => h) (fun _ h => h.elim) ?aF ?aB ?aS ?aL ?_; (case aR => repeat (first | exact (Kd.R_reads' HO_6.out).2.2 | (with_reducible refine Kd.C_alloc ?_ _) | (with_reducible refine Kd.C_drewN ?_ _) | (with_reducible refine Kd.C_drew ?_))); (case aB => exact (by repeat (first | (with_reducible first | exact HB.out | apply below_alloc | apply pw_below_drewN | apply below_drew1 | refine below_set ?_ GE387.out | refine below_set ?_ GE388.out) | exact HB.out))); (case aF => exact (fun k_ hk => Kd.fresh' (Kd.R_lt (by (with_reducible repeat (first | apply Kd.R_alloc | apply Kd.R_drewN | apply Kd.R_drew)); exact HO_6.out)) k_ hk)); (case aO => exact (by (with_reducible repeat (first | apply Kd.R_alloc | apply Kd.R_drewN | apply Kd.R_drew)); exact Kd.R_mono HO396.out (fun _ hk => hk.2))); (case aS => exact (below_size (by repeat (first | (with_reducible first | exact HB.out | apply below_alloc | apply pw_below_drewN | apply below_drew1 | refine below_set ?_ GE387.out | refine below_set ?_ GE388.out) | exact HB.out)))); (case aL => have := LMc20.out; omega); intro v398 w46 ho hb hg hat; rw [← Ny397.out] at ho; have n0_ := Aside0.mk (Kd.R_after (ok := (fun _ => True)) (by (with_reducible repeat (first | apply Kd.R_alloc | apply Kd.R_drewN | apply Kd.R_drew)); exact HO_6.out) hg hat); have n1_ := Aside0.mk (blk_grown (g := gb387) (o := .cells #[.int .i64 a0_0, .int .i64 a0_1, .int .i64 a0_2] 23 (0, 0)) (by (with_reducible repeat (first | refine blk_drewN ?_ _ | refine blk_drew ?_ | refine blk_alloc ?_ _)); exact BK387.out) hg (Kd.R_ne HO396.out BK387.out (by decide))); have n2_ := Aside0.mk (blk_grown (g := gb388) (o := .cells #[.int .i64 a1_0, .int .i64 a1_1] 45 (0, 0)) (by (with_reducible repeat (first | refine blk_drewN ?_ _ | refine blk_drew ?_ | refine blk_alloc ?_ _)); exact BK388.out) hg (Kd.R_ne HO396.out BK388.out (by decide))); have n3_ := Aside0.mk (hb); have n4_ := Aside0.mk (ho); clear HO_6; clear BK387; clear BK388; clear HB; clear HO396; have HO_6 := n0_; have BK387 := n1_; have BK388 := n2_; have HB := n3_; have HO399 := n4_; clear n0_ n1_ n2_ n3_ n4_; clear ho hb hg hat))
                    (try (rw [drewN_self w46]; generalize hq_ : World.drewN w46 _ = w46; have n0_ : Aside0 (Kd.R (Kd.int .u8) 5 w46 w.heap.size (fun k_ => some k_ ≠ (.slice Ao43 t390.length co43 : Value).ownBlock) v398 y397) := ⟨by rw [← hq_]; exact (by (with_reducible repeat (first | apply Kd.R_alloc | apply Kd.R_drewN | apply Kd.R_drew)); exact HO399.out)⟩; have n1_ : Aside0 (Kd.R (Kd.int .u8) 5 w46 w.heap.size (fun k_ => some k_ ≠ (v398 : Value).ownBlock) (.slice Ao43 t390.length co43) t390) := ⟨by rw [← hq_]; exact (by (with_reducible repeat (first | apply Kd.R_alloc | apply Kd.R_drewN | apply Kd.R_drew)); exact Kd.R_mono HO_6.out (fun _ hk => hk.2))⟩; have n2_ : Aside0 (w46.heap[gb387]? = some (.cells #[.int .i64 a0_0, .int .i64 a0_1, .int .i64 a0_2] 23 (0, 0))) := ⟨by rw [← hq_]; exact (by (with_reducible repeat (first | refine blk_drewN ?_ _ | refine blk_drew ?_ | refine blk_alloc ?_ _)); exact BK387.out)⟩; have n3_ : Aside0 (w46.heap[gb388]? = some (.cells #[.int .i64 a1_0, .int .i64 a1_1] 45 (0, 0))) := ⟨by rw [← hq_]; exact (by (with_reducible repeat (first | refine blk_drewN ?_ _ | refine blk_drew ?_ | refine blk_alloc ?_ _)); exact BK388.out)⟩; have n4_ : Aside0 (Below w.heap.size w w46) := ⟨by rw [← hq_]; exact (by repeat (first | (with_reducible first | exact HB.out | apply below_alloc | apply pw_below_drewN | apply below_drew1 | refine below_set ?_ GE387.out | refine below_set ?_ GE388.out) | exact HB.out))⟩; clear HO399 HO_6 BK387 BK388 HB hq_; have HO399 := n0_; have HO_6 := n1_; have BK387 := n2_; have BK388 := n3_; have HB := n4_; clear n0_ n1_ n2_ n3_ n4_))
                    have n0_ := Aside0.mk (Kd.R_drew HO_6.out)
                    have n1_ := Aside0.mk (Kd.R_drew HO399.out)
                    have n2_ := Aside0.mk (blk_drew BK387.out)
                    have n3_ := Aside0.mk (blk_drew BK388.out)
                    have n4_ := Aside0.mk (below_drew1 HB.out)
                    clear HO_6
                    clear HO399
                    clear BK387
                    clear BK388
                    clear HB
                    have HO_6 := n0_
                    have HO399 := n1_
                    have BK387 := n2_
                    have BK388 := n3_
                    have HB := n4_
                    clear n0_ n1_ n2_ n3_ n4_
                    obtain ⟨Ao48, co48, eo48⟩ := Kd.R_slice HO399.out
                    (first | subst eo48 | (injection eo48 with f1_ f2_ f3_; have f4_ := f1_.symm; have f5_ := f3_.symm; clear f1_ f2_ f3_; subst f4_; subst f5_))
                    have p400 : 0 ≤ ((ji21) : Int) := of_decide_eq_true (by first | (with_reducible assumption) | assumption)
                    have q400 : (ji21) < (y397.length : Int) := of_decide_eq_true (by first | (with_reducible assumption) | assumption)
                    obtain ⟨ad400, e400, hx400_0⟩ := Kd.at_int (Kd.R_reads' HO399.out).2.2 (ji21) p400 q400
                    cases e400
                    replace p400 := eq_true p400
                    replace q400 := eq_true q400
                    have p24 : 0 ≤ ((ji21) : Int) := of_decide_eq_true (by first | (with_reducible assumption) | assumption)
                    have q24 : ((ji21) : Int) < ((y397.length : Int) : Int) := of_decide_eq_true (by first | (with_reducible assumption) | assumption)
                    obtain ⟨go24, co24, eo24, gb24, gl24, cl24, HG24⟩ := Kd.R_form HO399.out (by omega)
                    (first | cases eo24 | (injection eo24 with ea_ en_ ec_; (first | subst ea_ | (injection ea_ with ea_; subst ea_)); subst ec_; clear en_))
                    have GB24 := Aside0.mk gb24
                    have GG24 := Aside0.mk HG24
                    clear gb24 gl24 HG24
                    (first | simp only [add_plain] at hx400_0 | skip)
                    obtain ⟨hx24_0, hf24_0⟩ := Kd.R_celln 0 HO399.out ((ji21) : Int) p24 q24
                    replace p24 := eq_true p24
                    replace q24 := eq_true q24
                    have HP49 := Kd.R_putn HO399.out ((ji21) : Int) (Go.bits .xor .u8 (rd y397 (ji21)) ((a1_1) % 256))
                    rw [← Ny401.out] at HP49
                    have HQ49 := Aside0.mk HP49
                    clear HP49
                    refine start_ (n := 16) (S := fun w' => w'.cell? ⟨gb388, 0, none⟩ = some (.int .i64 a1_0) ∧ w'.cell? ⟨gb388, 1, none⟩ = some (.int .i64 a1_1) ∧ w'.cell? ⟨go24, ((ji21)).toNat, none⟩ = some (.int .u8 (rd y397 (ji21)))) (ds := [15]) #[false, false, false, false, false, false, false, false, false, false, false, false, false, false, false, false] (by kernel_rfl) rfl rfl ⟨(blk_cell BK388.out 0).trans rfl, (blk_cell BK388.out 1).trans rfl, hx400_0⟩ (fun hHeld => ?_); refine with_tabW strakelaw06_MarkTurned.tab8 strakelaw06_MarkTurned.bits8 (fun HT_ HW_ => ?_)
                    generalize w46.drew = w47 at HO_6 HO399 BK387 BK388 HB GG24 HQ49 hf24_0 hx24_0 hx400_0 hHeld ⊢
                    refine pure_ (i := 0) (N := some 37) (v := ?_) (a' := ?_) #[true, false, false, false, false, false, false, false, false, false, false, false, false, false, false, false] rfl rfl (any_of HT_.out (by kernel_rfl)) (fun _ _ _ h => h) (Or.inl ⟨by rfl, ?_⟩) ?_ ?_
                    rotate_left
                    · intro w'
                      go_simp
                      with_reducible rfl
                    rotate_left
                    · simp only [Act.put, List.setIfInBounds_toArray, List.set_cons_zero, List.set_cons_succ, i64_w, i32_w]
                      rfl
                    refine pure_ (i := 1) (N := some 38) (v := ?_) (a' := ?_) #[true, true, false, false, false, false, false, false, false, false, false, false, false, false, false, false] rfl rfl (any_of HT_.out (by kernel_rfl)) (fun _ _ _ h => h) (Or.inl ⟨by rfl, ?_⟩) ?_ ?_
                    rotate_left
                    · intro w'
                      go_simp
                      with_reducible rfl
                    rotate_left
                    · simp only [Act.put, List.setIfInBounds_toArray, List.set_cons_zero, List.set_cons_succ, i64_w, i32_w]
                      rfl
                    refine pure_ (i := 4) (N := some 41) (v := ?_) (a' := ?_) #[true, true, false, false, true, false, false, false, false, false, false, false, false, false, false, false] rfl rfl (any_of HT_.out (by kernel_rfl)) (fun _ _ _ h => h) (Or.inl ⟨by rfl, ?_⟩) ?_ ?_
                    rotate_left
                    · intro w'
                      go_simp
                      with_reducible rfl
                    rotate_left
                    · simp only [Act.put, List.setIfInBounds_toArray, List.set_cons_zero, List.set_cons_succ, i64_w, i32_w]
                      rfl
                    refine pure_ (i := 5) (N := some 42) (v := ?_) (a' := ?_) #[true, true, false, false, true, true, false, false, false, false, false, false, false, false, false, false] rfl rfl (any_of HT_.out (by kernel_rfl)) (fun _ _ _ h => h) (Or.inl ⟨by rfl, ?_⟩) ?_ ?_
                    rotate_left
                    · intro w'
                      go_simp
                      with_reducible rfl
                    rotate_left
                    · simp only [Act.put, List.setIfInBounds_toArray, List.set_cons_zero, List.set_cons_succ, i64_w, i32_w]
                      rfl
                    refine pure_ (i := 10) (N := some 47) (v := ?_) (a' := ?_) #[true, true, false, false, true, true, false, false, false, false, true, false, false, false, false, false] rfl rfl (any_of HT_.out (by kernel_rfl)) (fun _ _ _ h => h) (Or.inl ⟨by rfl, ?_⟩) ?_ ?_
                    rotate_left
                    · intro w'
                      go_simp
                      with_reducible rfl
                    rotate_left
                    · simp only [Act.put, List.setIfInBounds_toArray, List.set_cons_zero, List.set_cons_succ, i64_w, i32_w]
                      rfl
                    refine take_ (i := 2) (N := some 39) (v := ?_) (a' := ?_) #[true, true, true, false, true, true, false, false, false, false, true, false, false, false, false, false] rfl rfl (take_ofW HT_.out HW_.out (by kernel_rfl)) (fun _ _ _ h => h) (Or.inl ⟨by rfl, ?_⟩) hHeld ?_ ?_
                    rotate_left
                    · rintro w' ⟨s0, s1, s2⟩
                      go_simp
                      with_reducible rfl
                    rotate_left
                    · simp only [Act.put, List.setIfInBounds_toArray, List.set_cons_zero, List.set_cons_succ, i64_w, i32_w]
                      rfl
                    refine pure_ (i := 3) (N := some 40) (v := ?_) (a' := ?_) #[true, true, true, true, true, true, false, false, false, false, true, false, false, false, false, false] rfl rfl (any_of HT_.out (by kernel_rfl)) (fun _ _ _ h => h) (Or.inl ⟨by rfl, ?_⟩) ?_ ?_
                    rotate_left
                    · intro w'
                      go_simp
                      with_reducible rfl
                    rotate_left
                    · simp only [Act.put, List.setIfInBounds_toArray, List.set_cons_zero, List.set_cons_succ, i64_w, i32_w]
                      rfl
                    refine take_ (i := 6) (N := some 43) (v := ?_) (a' := ?_) #[true, true, true, true, true, true, true, false, false, false, true, false, false, false, false, false] rfl rfl (take_ofW HT_.out HW_.out (by kernel_rfl)) (fun _ _ _ h => h) (Or.inl ⟨by rfl, ?_⟩) hHeld ?_ ?_
                    rotate_left
                    · rintro w' ⟨s0, s1, s2⟩
                      go_simp
                      with_reducible rfl
                    rotate_left
                    · simp only [Act.put, List.setIfInBounds_toArray, List.set_cons_zero, List.set_cons_succ, i64_w, i32_w]
                      rfl
                    refine pure_ (i := 7) (N := some 44) (v := ?_) (a' := ?_) #[true, true, true, true, true, true, true, true, false, false, true, false, false, false, false, false] rfl rfl (any_of HT_.out (by kernel_rfl)) (fun _ _ _ h => h) (Or.inl ⟨by rfl, ?_⟩) ?_ ?_
                    rotate_left
                    · intro w'
                      go_simp
                      with_reducible rfl
                    rotate_left
                    · simp only [Act.put, List.setIfInBounds_toArray, List.set_cons_zero, List.set_cons_succ, i64_w, i32_w]
                      rfl
                    refine pure_ (i := 8) (N := some 45) (v := ?_) (a' := ?_) #[true, true, true, true, true, true, true, true, true, false, true, false, false, false, false, false] rfl rfl (any_of HT_.out (by kernel_rfl)) (fun _ _ _ h => h) (Or.inl ⟨by rfl, ?_⟩) ?_ ?_
                    rotate_left
                    · intro w'
                      go_simp
                      with_reducible rfl
                    rotate_left
                    · simp only [Act.put, List.setIfInBounds_toArray, List.set_cons_zero, List.set_cons_succ, i64_w, i32_w]
                      rfl
                    refine take_ (i := 9) (N := some 46) (v := ?_) (a' := ?_) #[true, true, true, true, true, true, true, true, true, true, true, false, false, false, false, false] rfl rfl (take_ofW HT_.out HW_.out (by kernel_rfl)) (fun _ _ _ h => h) (Or.inl ⟨by rfl, ?_⟩) hHeld ?_ ?_
                    rotate_left
                    · rintro w' ⟨s0, s1, s2⟩
                      go_simp
                      with_reducible rfl
                    rotate_left
                    · simp only [Act.put, List.setIfInBounds_toArray, List.set_cons_zero, List.set_cons_succ, i64_w, i32_w]
                      rfl
                    refine take_ (i := 11) (N := some 48) (v := ?_) (a' := ?_) #[true, true, true, true, true, true, true, true, true, true, true, true, false, false, false, false] rfl rfl (take_ofW HT_.out HW_.out (by kernel_rfl)) (fun _ _ _ h => h) (Or.inl ⟨by rfl, ?_⟩) hHeld ?_ ?_
                    rotate_left
                    · rintro w' ⟨s0, s1, s2⟩
                      go_simp
                      with_reducible rfl
                    rotate_left
                    · simp only [Act.put, List.setIfInBounds_toArray, List.set_cons_zero, List.set_cons_succ, i64_w, i32_w]
                      rfl
                    refine pure_ (i := 12) (N := some 49) (v := ?_) (a' := ?_) #[true, true, true, true, true, true, true, true, true, true, true, true, true, false, false, false] rfl rfl (any_of HT_.out (by kernel_rfl)) (fun _ _ _ h => h) (Or.inl ⟨by rfl, ?_⟩) ?_ ?_
                    rotate_left
                    · intro w'
                      go_simp
                      with_reducible rfl
                    rotate_left
                    · simp only [Act.put, List.setIfInBounds_toArray, List.set_cons_zero, List.set_cons_succ, i64_w, i32_w]
                      rfl
                    refine pure_ (i := 13) (N := some 50) (v := ?_) (a' := ?_) #[true, true, true, true, true, true, true, true, true, true, true, true, true, true, false, false] rfl rfl (any_of HT_.out (by kernel_rfl)) (fun _ _ _ h => h) (Or.inl ⟨by rfl, ?_⟩) ?_ ?_
                    rotate_left
                    · intro w'
                      go_simp
                      with_reducible rfl
                    rotate_left
                    · simp only [Act.put, List.setIfInBounds_toArray, List.set_cons_zero, List.set_cons_succ, i64_w, i32_w]
                      rfl
                    refine pure_ (i := 14) (N := some 51) (v := ?_) (a' := ?_) #[true, true, true, true, true, true, true, true, true, true, true, true, true, true, true, false] rfl rfl (any_of HT_.out (by kernel_rfl)) (fun _ _ _ h => h) (Or.inl ⟨by rfl, ?_⟩) ?_ ?_
                    rotate_left
                    · intro w'
                      go_simp
                      with_reducible rfl
                    rotate_left
                    · simp only [Act.put, List.setIfInBounds_toArray, List.set_cons_zero, List.set_cons_succ, i64_w, i32_w]
                      rfl
                    refine last_ (i := 15) (N := none) #[true, true, true, true, true, true, true, true, true, true, true, true, true, true, true, true] rfl rfl (one_of HT_.out (by kernel_rfl)) (by decide) (fun K hK => ?_)
                    refine skip_ (w1 := ?_) (by rfl) rfl ?_ ?_
                    rotate_left
                    · go_simp
                      rfl
                    refine hK.out _ _ ?_
                    clear hK K
                    refine done_ (done_of HT_.out (by kernel_rfl)) ?_
                    have n0_ : Aside0 (Kd.R (Kd.int .u8) 5 (w47.setCell ⟨go24, ((ji21) : Int).toNat, none⟩ (.int .u8 (Go.bits .xor .u8 (rd y397 (ji21)) ((a1_1) % 256)))) w.heap.size (fun k_ => some k_ ≠ (.slice (some ⟨go24, 0, none⟩) y397.length co48 : Value).ownBlock) (.slice Ao43 t390.length co43) t390) := ⟨by (with_reducible repeat (first | apply Kd.R_alloc | apply Kd.R_drewN | apply Kd.R_drew)); exact Kd.R_mono (Kd.R_far (p := ⟨go24, ((ji21) : Int).toNat, none⟩) (Kd.R_mono HO_6.out (fun k_ hk => (⟨hk, fun e_ => hk.2 (by rw [e_]; rfl)⟩ : _ ∧ k_ ≠ go24))) (fun _ hk => hk.2) (.int .u8 (Go.bits .xor .u8 (rd y397 (ji21)) ((a1_1) % 256)))) (fun _ hk => hk.1.2)⟩
                    have n1_ : Aside0 (Kd.R (Kd.int .u8) 5 (w47.setCell ⟨go24, ((ji21) : Int).toNat, none⟩ (.int .u8 (Go.bits .xor .u8 (rd y397 (ji21)) ((a1_1) % 256)))) w.heap.size (fun k_ => some k_ ≠ (.slice Ao43 t390.length co43 : Value).ownBlock) (.slice (some ⟨go24, 0, none⟩) y397.length co48) y401) := ⟨by (with_reducible repeat (first | apply Kd.R_alloc | apply Kd.R_drewN | apply Kd.R_drew)); exact HQ49.out⟩
                    have n2_ : Aside0 ((w47.setCell ⟨go24, ((ji21) : Int).toNat, none⟩ (.int .u8 (Go.bits .xor .u8 (rd y397 (ji21)) ((a1_1) % 256)))).heap[gb387]? = some (.cells #[.int .i64 a0_0, .int .i64 a0_1, .int .i64 a0_2] 23 (0, 0))) := ⟨by (with_reducible repeat (first | refine blk_drewN ?_ _ | refine blk_drew ?_ | refine blk_alloc ?_ _)); refine blk_far ?_ (by have h_ := Kd.R_ne HO399.out BK387.out (by decide); intro e_; exact h_ (by rw [e_]; rfl)) _; (with_reducible repeat (first | refine blk_drewN ?_ _ | refine blk_drew ?_ | refine blk_alloc ?_ _)); exact BK387.out⟩
                    have n3_ : Aside0 ((w47.setCell ⟨go24, ((ji21) : Int).toNat, none⟩ (.int .u8 (Go.bits .xor .u8 (rd y397 (ji21)) ((a1_1) % 256)))).heap[gb388]? = some (.cells #[.int .i64 a1_0, .int .i64 a1_1] 45 (0, 0))) := ⟨by (with_reducible repeat (first | refine blk_drewN ?_ _ | refine blk_drew ?_ | refine blk_alloc ?_ _)); refine blk_far ?_ (by have h_ := Kd.R_ne HO399.out BK388.out (by decide); intro e_; exact h_ (by rw [e_]; rfl)) _; (with_reducible repeat (first | refine blk_drewN ?_ _ | refine blk_drew ?_ | refine blk_alloc ?_ _)); exact BK388.out⟩
                    have n4_ : Aside0 (Below w.heap.size w (w47.setCell ⟨go24, ((ji21) : Int).toNat, none⟩ (.int .u8 (Go.bits .xor .u8 (rd y397 (ji21)) ((a1_1) % 256))))) := ⟨by repeat (first | (with_reducible first | exact HB.out | apply below_alloc | apply pw_below_drewN | apply below_drew1 | refine below_set ?_ GB24.out | refine below_set ?_ GE387.out | refine below_set ?_ GE388.out) | exact HB.out)⟩
                    (try clear HO_6)
                    (try clear HO399)
                    (try clear BK387)
                    (try clear BK388)
                    (try clear HB)
                    (try simp only [IntKind.wrap_u8, IntKind.wrap_u32])
                    generalize (w47.setCell ⟨go24, ((ji21) : Int).toNat, none⟩ (.int .u8 (Go.bits .xor .u8 (rd y397 (ji21)) ((a1_1) % 256)))) = w50 at n0_ n1_ n2_ n3_ n4_ ⊢
                    have HO_6 := n0_
                    have HO399 := n1_
                    have BK387 := n2_
                    have BK388 := n3_
                    have HB := n4_
                    clear n0_ n1_ n2_ n3_ n4_
                    try go_wp2_with (first | ((with_reducible refine gate_callee (f := 28) rfl ?_); refine goesL_ (some 54) rfl rfl Try.func28 (by kernel_rfl) rfl #[.slice (some ⟨go24, 0, none⟩) y401.length co48] rfl (by (try simp only [List.map_toArray, List.map_cons, List.map_nil]); first | done | (rw [show y401.length = y397.length from (Kd.R_reads' HO399.out).1.symm] <;> rfl) | rfl | (simp only [List.length_drop, List.length_take]; rfl)) ?_; (with_reducible refine (mark_Read.calls kj4 _ _ y401 t402 t403 t404 t405 _ ?side1 ?side2 A25.out).mono ?_); (case side1 => repeat (first | exact (Kd.R_reads' HO399.out).2.2 | (with_reducible refine Kd.C_alloc ?_ _) | (with_reducible refine Kd.C_drewN ?_ _) | (with_reducible refine Kd.C_drew ?_))); (case side2 => rw [show y401.length = y397.length from (Kd.R_reads' HO399.out).1.symm]; exact (Kd.R_reads' HO399.out).2.1); rintro e w51 ⟨rfl, hb⟩; refine ⟨_, rfl, ?_⟩; have n0_ := Aside0.mk (Kd.R_below (by (with_reducible repeat (first | apply Kd.R_alloc | apply Kd.R_drewN | apply Kd.R_drew)); exact HO_6.out) hb); have n1_ := Aside0.mk (Kd.R_below (by (with_reducible repeat (first | apply Kd.R_alloc | apply Kd.R_drewN | apply Kd.R_drew)); exact HO399.out) hb); have n2_ := Aside0.mk (blk_below (g := gb387) (o := .cells #[.int .i64 a0_0, .int .i64 a0_1, .int .i64 a0_2] 23 (0, 0)) (by (with_reducible repeat (first | refine blk_drewN ?_ _ | refine blk_drew ?_ | refine blk_alloc ?_ _)); exact BK387.out) hb); have n3_ := Aside0.mk (blk_below (g := gb388) (o := .cells #[.int .i64 a1_0, .int .i64 a1_1] 45 (0, 0)) (by (with_reducible repeat (first | refine blk_drewN ?_ _ | refine blk_drew ?_ | refine blk_alloc ?_ _)); exact BK388.out) hb); have n4_ := Aside0.mk (below_step (by repeat (first | (with_reducible first | exact HB.out | apply below_alloc | apply pw_below_drewN | apply below_drew1 | refine below_set ?_ GE387.out | refine below_set ?_ GE388.out) | exact HB.out)) hb); clear HO_6; clear HO399; clear BK387; clear BK388; clear HB; have HO_6 := n0_; have HO399 := n1_; have BK387 := n2_; have BK388 := n3_; have HB := n4_; clear n0_ n1_ n2_ n3_ n4_; (try clear hb); (try clear hb2); (try clear hk); (try clear hi)) | ((with_reducible refine gate_dst (N := 9) rfl ?_); refine box_event ?hg (N := 9) ?hd (cs := #[.int .i64 0, .int .i64 0, .int .i64 0]) (t := 23) ?hr ?_; (case hd => rfl); (case hg => rfl); (case hr => first | (go_simp; done) | (go_simp; rfl)); intro gb406 hg w52 hbox hb; have n0_ := Aside0.mk (Kd.R_below (by (with_reducible repeat (first | apply Kd.R_alloc | apply Kd.R_drewN | apply Kd.R_drew)); exact HO_6.out) hb); have n1_ := Aside0.mk (Kd.R_below (by (with_reducible repeat (first | apply Kd.R_alloc | apply Kd.R_drewN | apply Kd.R_drew)); exact HO399.out) hb); have n2_ := Aside0.mk (blk_below (g := gb387) (o := .cells #[.int .i64 a0_0, .int .i64 a0_1, .int .i64 a0_2] 23 (0, 0)) (by (with_reducible repeat (first | refine blk_drewN ?_ _ | refine blk_drew ?_ | refine blk_alloc ?_ _)); exact BK387.out) hb); have n3_ := Aside0.mk (blk_below (g := gb388) (o := .cells #[.int .i64 a1_0, .int .i64 a1_1] 45 (0, 0)) (by (with_reducible repeat (first | refine blk_drewN ?_ _ | refine blk_drew ?_ | refine blk_alloc ?_ _)); exact BK388.out) hb); have n4_ := Aside0.mk (below_step (by repeat (first | (with_reducible first | exact HB.out | apply below_alloc | apply pw_below_drewN | apply below_drew1 | refine below_set ?_ GE387.out | refine below_set ?_ GE388.out) | exact HB.out)) hb); have n5_ := Aside0.mk (hbox); have n6_ := Aside0.mk ((by rw [hg]; exact (below_size (by repeat (first | (with_reducible first | exact HB.out | apply below_alloc | apply pw_below_drewN | apply below_drew1 | refine below_set ?_ GE387.out | refine below_set ?_ GE388.out) | exact HB.out))) : w.heap.size ≤ gb406)); have n7_ := Aside0.mk ((by rw [hg]; exact (below_size (by repeat (first | (with_reducible first | exact HB.out | apply below_alloc | apply pw_below_drewN | apply below_drew1 | refine below_set ?_ GE387.out | refine below_set ?_ GE388.out) | exact HB.out))) : w.heap.size ≤ gb406)); have n8_ := Aside0.mk ((by rw [hg]; exact Nat.ne_of_lt (blk_lt (g := gb387) (o := .cells #[.int .i64 a0_0, .int .i64 a0_1, .int .i64 a0_2] 23 (0, 0)) (by (with_reducible repeat (first | refine blk_drewN ?_ _ | refine blk_drew ?_ | refine blk_alloc ?_ _)); exact BK387.out)) : gb387 ≠ gb406)); have n9_ := Aside0.mk ((by rw [hg]; exact Nat.ne_of_gt (blk_lt (g := gb387) (o := .cells #[.int .i64 a0_0, .int .i64 a0_1, .int .i64 a0_2] 23 (0, 0)) (by (with_reducible repeat (first | refine blk_drewN ?_ _ | refine blk_drew ?_ | refine blk_alloc ?_ _)); exact BK387.out)) : gb406 ≠ gb387)); have n10_ := Aside0.mk ((by rw [hg]; exact Nat.ne_of_lt (blk_lt (g := gb388) (o := .cells #[.int .i64 a1_0, .int .i64 a1_1] 45 (0, 0)) (by (with_reducible repeat (first | refine blk_drewN ?_ _ | refine blk_drew ?_ | refine blk_alloc ?_ _)); exact BK388.out)) : gb388 ≠ gb406)); have n11_ := Aside0.mk ((by rw [hg]; exact Nat.ne_of_gt (blk_lt (g := gb388) (o := .cells #[.int .i64 a1_0, .int .i64 a1_1] 45 (0, 0)) (by (with_reducible repeat (first | refine blk_drewN ?_ _ | refine blk_drew ?_ | refine blk_alloc ?_ _)); exact BK388.out)) : gb406 ≠ gb388)); clear HO_6; clear HO399; clear BK387; clear BK388; clear HB; have HO_6 := n0_; have HO399 := n1_; have BK387 := n2_; have BK388 := n3_; have HB := n4_; have BK406 := n5_; have GW406 := n6_; have GE406 := n7_; have NB387_406 := n8_; have NB406_387 := n9_; have NB388_406 := n10_; have NB406_388 := n11_; clear n0_ n1_ n2_ n3_ n4_ n5_ n6_ n7_ n8_ n9_ n10_ n11_; clear hb hbox hg; have hnb53 := NB406_387.out; have hnc53 := NB387_406.out; have hnb54 := NB406_388.out; have hnc54 := NB388_406.out; have hcz55_0 : w52.cell? ⟨gb406, 0, none⟩ = some (.int .i64 0) := (blk_cell BK406.out 0).trans rfl; have hcz55_1 : w52.cell? ⟨gb406, 1, none⟩ = some (.int .i64 0) := (blk_cell BK406.out 1).trans rfl; have hcz55_2 : w52.cell? ⟨gb406, 2, none⟩ = some (.int .i64 0) := (blk_cell BK406.out 2).trans rfl; have hfz55_0 := blk_frozen BK406.out 0; have hfz55_1 := blk_frozen BK406.out 1; have hfz55_2 := blk_frozen BK406.out 2))
                    go_ret
                    exact ⟨by first | rfl | (simp [errW_none, errW_some] <;> rfl) | (simp only [← hji21]; first | rfl | (simp [errW_none, errW_some] <;> rfl)) | (simp [*, errW_none, errW_some] <;> rfl), by repeat (first | (with_reducible first | exact HB.out | apply below_alloc | apply pw_below_drewN | apply below_drew1 | refine below_set ?_ GE387.out | refine below_set ?_ GE388.out | refine below_set ?_ GE406.out) | exact HB.out)⟩
                · rw [if_neg c26] at H
                  have c26b0 : (t405 == 0) = false := beq_eq_false_iff_ne.mpr c26
                  have c26b1 : (t405 != 0) = true := bne_iff_ne.mpr c26
                  by_cases c56 : t389 = true
                  · subst c56
                    have H1 : (if t405 = 3 then (if (t402 == 0 && (t403 == 0 && (t404 == 0))) = true then (if (ji21) = 2 then (if 2 < (y397.length : Int) then (some (decide ((rd y401 2) > 63))) else (none)) else (some true)) else (some false)) else (some false)) = some r := by rw [if_pos rfl] at H; exact H
                    clear H
                    have H := H1
                    clear H1
                    by_cases c57 : t405 = 3
                    · rw [if_pos c57] at H
                      have c57b0 : (t405 == 3) = true := beq_iff_eq.mpr c57
                      have c57b1 : (t405 != 3) = false := bne_eq_false_iff_eq.mpr c57
                      clear c57
                      by_cases c58 : (t402 == 0 && (t403 == 0 && (t404 == 0))) = true
                      · rw [if_pos c58] at H
                        have c58b0 : (t402 == 0 && (t403 == 0 && (t404 == 0))) = true := c58
                        (try (have c58b1 : decide (t402 = 0 && (t403 == 0 && (t404 == 0))) = true := by simpa using c58))
                        (try (have c58b2 : (t402 == 0 && (t403 == 0 && (t404 == 0))) = true := by simpa using c58))
                        clear c58
                        by_cases c59 : (ji21) = 2
                        · rw [if_pos c59] at H
                          have c59b0 : ((ji21) == 2) = true := beq_iff_eq.mpr c59
                          have c59b1 : ((ji21) != 2) = false := bne_eq_false_iff_eq.mpr c59
                          clear c59
                          by_cases c60 : 2 < (y397.length : Int)
                          · rw [if_pos c60] at H
                            have c60b0 : decide (2 < (y397.length : Int)) = true := decide_eq_true c60
                            have c60b1 : decide (2 < y397.length) = true := decide_eq_true (by omega)
                            clear c60
                            obtain rfl := Option.some.inj H
                            obtain ⟨Ao61, co61, eo61⟩ := Kd.R_slice HO_6.out
                            subst eo61
                            try go_wp2_with (first | ((with_reducible refine gate_dst (N := 34) rfl ?_); refine Kd.R_lit (Kd.int .u8) _ 5 ?hg (N := 34) ?hd (xs := ([] : List Int)) (inner := []) (ok := fun _ => True) (okp := fun _ => True) ?hr ?hp (fun _ hk => hk) trivial (Below.refl _ _) (Nat.le_refl _) (by simp) ?_; (case hd => rfl); (case hg => rfl); (case hr => first | (go_simp; done) | (go_simp; rfl)); (case hp => exact (Reps.none _ _)); intro v395 w62 ho63 hb hg_ hnew_; clear hg_ hnew_; (first | rw [← Ny394.out] at ho63 | (simp only [Int.reduceToNat] at ho63; rw [← Ny394.out] at ho63)); have n0_ := Aside0.mk (Kd.R_elder' (by (with_reducible repeat (first | apply Kd.R_alloc | apply Kd.R_drewN | apply Kd.R_drew)); exact HO_6.out) (Kd.R_base ho63) hb); have n1_ := Aside0.mk (Kd.R_lower (Kd.R_new' ho63 (Kd.R_lt (by (with_reducible repeat (first | apply Kd.R_alloc | apply Kd.R_drewN | apply Kd.R_drew)); exact HO_6.out))) (below_size (by repeat (first | (with_reducible first | exact HB.out | apply below_alloc | apply pw_below_drewN | apply below_drew1 | refine below_set ?_ GE387.out | refine below_set ?_ GE388.out) | exact HB.out)))); have n2_ := Aside0.mk (blk_below (g := gb387) (o := .cells #[.int .i64 a0_0, .int .i64 a0_1, .int .i64 a0_2] 23 (0, 0)) (by (with_reducible repeat (first | refine blk_drewN ?_ _ | refine blk_drew ?_ | refine blk_alloc ?_ _)); exact BK387.out) hb); have n3_ := Aside0.mk (blk_below (g := gb388) (o := .cells #[.int .i64 a1_0, .int .i64 a1_1] 45 (0, 0)) (by (with_reducible repeat (first | refine blk_drewN ?_ _ | refine blk_drew ?_ | refine blk_alloc ?_ _)); exact BK388.out) hb); have n4_ := Aside0.mk (below_step (by repeat (first | (with_reducible first | exact HB.out | apply below_alloc | apply pw_below_drewN | apply below_drew1 | refine below_set ?_ GE387.out | refine below_set ?_ GE388.out) | exact HB.out)) hb); clear HO_6; clear BK387; clear BK388; clear HB; have HO_6 := n0_; have HO396 := n1_; have BK387 := n2_; have BK388 := n3_; have HB := n4_; clear n0_ n1_ n2_ n3_ n4_; clear hb ho63) | ((with_reducible refine gate_builtin (b := .append) (xs := #[.tmp 34, .tmp 35]) rfl ?_); at_builtin; refine Kd.R_append_rows (Kd.int .u8) (w0 := w) w.heap.size rfl (.tmp 34) (.tmp 35) 25 5 (.int .u8 0) 1 rfl Try.underlying25 info5 rfl (by decide) (by omega) v395 y394 t390 _ _ _ (fun k_ => some k_ ≠ (.slice Ao61 t390.length co61 : Value).ownBlock) (fun _ => False) rfl rfl ?aO ?aR (fun _ _ h => h) (fun _ h => h.elim) ?aF ?aB ?aS ?aL ?_; (case aR => repeat (first | exact (Kd.R_reads' HO_6.out).2.2 | (with_reducible refine Kd.C_alloc ?_ _) | (with_reducible refine Kd.C_drewN ?_ _) | (with_reducible refine Kd.C_drew ?_))); (case aB => exact (by repeat (first | (with_reducible first | exact HB.out | apply below_alloc | apply pw_below_drewN | apply below_drew1 | refine below_set ?_ GE387.out | refine below_set ?_ GE388.out) | exact HB.out))); (case aF => exact (fun k_ hk => Kd.fresh' (Kd.R_lt (by (with_reducible repeat (first | apply Kd.R_alloc | apply Kd.R_drewN | apply Kd.R_drew)); exact HO_6.out)) k_ hk)); (case aO => exact (by (with_reducible repeat (first | apply Kd.R_alloc | apply Kd.R_drewN | apply Kd.R_drew)); exact Kd.R_mono HO396.out (fun _ hk => hk.2))); (case aS => exact (below_size (by repeat (first | (with_reducible first | exact HB.out | apply below_alloc | apply pw_below_drewN | apply below_drew1 | refine below_set ?_ GE387.out | refine below_set ?_ GE388.out) | exact HB.out)))); (case aL => have := LMc20.out; omega); intro v398 w64 ho hb hg hat; rw [← Ny397.out] at ho; have n0_ := Aside0.mk (Kd.R_after (ok := (fun _ => True)) (by (with_reducible repeat (first | apply Kd.R_alloc | apply Kd.R_drewN | apply Kd.R_drew)); exact HO_6.out) hg hat); have n1_ := Aside0.mk (blk_grown (g := gb387) (o := .cells #[.int .i64 a0_0, .int .i64 a0_1, .int .i64 a0_2] 23 (0, 0)) (by (with_reducible repeat (first | refine blk_drewN ?_ _ | refine blk_drew ?_ | refine blk_alloc ?_ _)); exact BK387.out) hg (Kd.R_ne HO396.out BK387.out (by decide))); have n2_ := Aside0.mk (blk_grown (g := gb388) (o := .cells #[.int .i64 a1_0, .int .i64 a1_1] 45 (0, 0)) (by (with_reducible repeat (first | refine blk_drewN ?_ _ | refine blk_drew ?_ | refine blk_alloc ?_ _)); exact BK388.out) hg (Kd.R_ne HO396.out BK388.out (by decide))); have n3_ := Aside0.mk (hb); have n4_ := Aside0.mk (ho); clear HO_6; clear BK387; clear BK388; clear HB; clear HO396; have HO_6 := n0_; have BK387 := n1_; have BK388 := n2_; have HB := n3_; have HO399 := n4_; clear n0_ n1_ n2_ n3_ n4_; clear ho hb hg hat))
                            (try (rw [drewN_self w64]; generalize hq_ : World.drewN w64 _ = w64; have n0_ : Aside0 (Kd.R (Kd.int .u8) 5 w64 w.heap.size (fun k_ => some k_ ≠ (.slice Ao61 t390.length co61 : Value).ownBlock) v398 y397) := ⟨by rw [← hq_]; exact (by (with_reducible repeat (first | apply Kd.R_alloc | apply Kd.R_drewN | apply Kd.R_drew)); exact HO399.out)⟩; have n1_ : Aside0 (Kd.R (Kd.int .u8) 5 w64 w.heap.size (fun k_ => some k_ ≠ (v398 : Value).ownBlock) (.slice Ao61 t390.length co61) t390) := ⟨by rw [← hq_]; exact (by (with_reducible repeat (first | apply Kd.R_alloc | apply Kd.R_drewN | apply Kd.R_drew)); exact Kd.R_mono HO_6.out (fun _ hk => hk.2))⟩; have n2_ : Aside0 (w64.heap[gb387]? = some (.cells #[.int .i64 a0_0, .int .i64 a0_1, .int .i64 a0_2] 23 (0, 0))) := ⟨by rw [← hq_]; exact (by (with_reducible repeat (first | refine blk_drewN ?_ _ | refine blk_drew ?_ | refine blk_alloc ?_ _)); exact BK387.out)⟩; have n3_ : Aside0 (w64.heap[gb388]? = some (.cells #[.int .i64 a1_0, .int .i64 a1_1] 45 (0, 0))) := ⟨by rw [← hq_]; exact (by (with_reducible repeat (first | refine blk_drewN ?_ _ | refine blk_drew ?_ | refine blk_alloc ?_ _)); exact BK388.out)⟩; have n4_ : Aside0 (Below w.heap.size w w64) := ⟨by rw [← hq_]; exact (by repeat (first | (with_reducible first | exact HB.out | apply below_alloc | apply pw_below_drewN | apply below_drew1 | refine below_set ?_ GE387.out | refine below_set ?_ GE388.out) | exact HB.out))⟩; clear HO399 HO_6 BK387 BK388 HB hq_; have HO399 := n0_; have HO_6 := n1_; have BK387 := n2_; have BK388 := n3_; have HB := n4_; clear n0_ n1_ n2_ n3_ n4_))
                            have n0_ := Aside0.mk (Kd.R_drew HO_6.out)
                            have n1_ := Aside0.mk (Kd.R_drew HO399.out)
                            have n2_ := Aside0.mk (blk_drew BK387.out)
                            have n3_ := Aside0.mk (blk_drew BK388.out)
                            have n4_ := Aside0.mk (below_drew1 HB.out)
                            clear HO_6
                            clear HO399
                            clear BK387
                            clear BK388
                            clear HB
                            have HO_6 := n0_
                            have HO399 := n1_
                            have BK387 := n2_
                            have BK388 := n3_
                            have HB := n4_
                            clear n0_ n1_ n2_ n3_ n4_
                            obtain ⟨Ao66, co66, eo66⟩ := Kd.R_slice HO399.out
                            (first | subst eo66 | (injection eo66 with f1_ f2_ f3_; have f4_ := f1_.symm; have f5_ := f3_.symm; clear f1_ f2_ f3_; subst f4_; subst f5_))
                            have p400 : 0 ≤ ((ji21) : Int) := of_decide_eq_true (by first | (with_reducible assumption) | assumption)
                            have q400 : (ji21) < (y397.length : Int) := of_decide_eq_true (by first | (with_reducible assumption) | assumption)
                            obtain ⟨ad400, e400, hx400_0⟩ := Kd.at_int (Kd.R_reads' HO399.out).2.2 (ji21) p400 q400
                            cases e400
                            replace p400 := eq_true p400
                            replace q400 := eq_true q400
                            have p24 : 0 ≤ ((ji21) : Int) := of_decide_eq_true (by first | (with_reducible assumption) | assumption)
                            have q24 : ((ji21) : Int) < ((y397.length : Int) : Int) := of_decide_eq_true (by first | (with_reducible assumption) | assumption)
                            obtain ⟨go24, co24, eo24, gb24, gl24, cl24, HG24⟩ := Kd.R_form HO399.out (by omega)
                            (first | cases eo24 | (injection eo24 with ea_ en_ ec_; (first | subst ea_ | (injection ea_ with ea_; subst ea_)); subst ec_; clear en_))
                            have GB24 := Aside0.mk gb24
                            have GG24 := Aside0.mk HG24
                            clear gb24 gl24 HG24
                            (first | simp only [add_plain] at hx400_0 | skip)
                            obtain ⟨hx24_0, hf24_0⟩ := Kd.R_celln 0 HO399.out ((ji21) : Int) p24 q24
                            replace p24 := eq_true p24
                            replace q24 := eq_true q24
                            have HP67 := Kd.R_putn HO399.out ((ji21) : Int) (Go.bits .xor .u8 (rd y397 (ji21)) ((a1_1) % 256))
                            rw [← Ny401.out] at HP67
                            have HQ67 := Aside0.mk HP67
                            clear HP67
                            refine start_ (n := 16) (S := fun w' => w'.cell? ⟨gb388, 0, none⟩ = some (.int .i64 a1_0) ∧ w'.cell? ⟨gb388, 1, none⟩ = some (.int .i64 a1_1) ∧ w'.cell? ⟨go24, ((ji21)).toNat, none⟩ = some (.int .u8 (rd y397 (ji21)))) (ds := [15]) #[false, false, false, false, false, false, false, false, false, false, false, false, false, false, false, false] (by kernel_rfl) rfl rfl ⟨(blk_cell BK388.out 0).trans rfl, (blk_cell BK388.out 1).trans rfl, hx400_0⟩ (fun hHeld => ?_); refine with_tabW strakelaw06_MarkTurned.tab8 strakelaw06_MarkTurned.bits8 (fun HT_ HW_ => ?_)
                            generalize w64.drew = w65 at HO_6 HO399 BK387 BK388 HB GG24 HQ67 hf24_0 hx24_0 hx400_0 hHeld ⊢
                            refine pure_ (i := 0) (N := some 37) (v := ?_) (a' := ?_) #[true, false, false, false, false, false, false, false, false, false, false, false, false, false, false, false] rfl rfl (any_of HT_.out (by kernel_rfl)) (fun _ _ _ h => h) (Or.inl ⟨by rfl, ?_⟩) ?_ ?_
                            rotate_left
                            · intro w'
                              go_simp
                              with_reducible rfl
                            rotate_left
                            · simp only [Act.put, List.setIfInBounds_toArray, List.set_cons_zero, List.set_cons_succ, i64_w, i32_w]
                              rfl
                            refine pure_ (i := 1) (N := some 38) (v := ?_) (a' := ?_) #[true, true, false, false, false, false, false, false, false, false, false, false, false, false, false, false] rfl rfl (any_of HT_.out (by kernel_rfl)) (fun _ _ _ h => h) (Or.inl ⟨by rfl, ?_⟩) ?_ ?_
                            rotate_left
                            · intro w'
                              go_simp
                              with_reducible rfl
                            rotate_left
                            · simp only [Act.put, List.setIfInBounds_toArray, List.set_cons_zero, List.set_cons_succ, i64_w, i32_w]
                              rfl
                            refine pure_ (i := 4) (N := some 41) (v := ?_) (a' := ?_) #[true, true, false, false, true, false, false, false, false, false, false, false, false, false, false, false] rfl rfl (any_of HT_.out (by kernel_rfl)) (fun _ _ _ h => h) (Or.inl ⟨by rfl, ?_⟩) ?_ ?_
                            rotate_left
                            · intro w'
                              go_simp
                              with_reducible rfl
                            rotate_left
                            · simp only [Act.put, List.setIfInBounds_toArray, List.set_cons_zero, List.set_cons_succ, i64_w, i32_w]
                              rfl
                            refine pure_ (i := 5) (N := some 42) (v := ?_) (a' := ?_) #[true, true, false, false, true, true, false, false, false, false, false, false, false, false, false, false] rfl rfl (any_of HT_.out (by kernel_rfl)) (fun _ _ _ h => h) (Or.inl ⟨by rfl, ?_⟩) ?_ ?_
                            rotate_left
                            · intro w'
                              go_simp
                              with_reducible rfl
                            rotate_left
                            · simp only [Act.put, List.setIfInBounds_toArray, List.set_cons_zero, List.set_cons_succ, i64_w, i32_w]
                              rfl
                            refine pure_ (i := 10) (N := some 47) (v := ?_) (a' := ?_) #[true, true, false, false, true, true, false, false, false, false, true, false, false, false, false, false] rfl rfl (any_of HT_.out (by kernel_rfl)) (fun _ _ _ h => h) (Or.inl ⟨by rfl, ?_⟩) ?_ ?_
                            rotate_left
                            · intro w'
                              go_simp
                              with_reducible rfl
                            rotate_left
                            · simp only [Act.put, List.setIfInBounds_toArray, List.set_cons_zero, List.set_cons_succ, i64_w, i32_w]
                              rfl
                            refine take_ (i := 2) (N := some 39) (v := ?_) (a' := ?_) #[true, true, true, false, true, true, false, false, false, false, true, false, false, false, false, false] rfl rfl (take_ofW HT_.out HW_.out (by kernel_rfl)) (fun _ _ _ h => h) (Or.inl ⟨by rfl, ?_⟩) hHeld ?_ ?_
                            rotate_left
                            · rintro w' ⟨s0, s1, s2⟩
                              go_simp
                              with_reducible rfl
                            rotate_left
                            · simp only [Act.put, List.setIfInBounds_toArray, List.set_cons_zero, List.set_cons_succ, i64_w, i32_w]
                              rfl
                            refine pure_ (i := 3) (N := some 40) (v := ?_) (a' := ?_) #[true, true, true, true, true, true, false, false, false, false, true, false, false, false, false, false] rfl rfl (any_of HT_.out (by kernel_rfl)) (fun _ _ _ h => h) (Or.inl ⟨by rfl, ?_⟩) ?_ ?_
                            rotate_left
                            · intro w'
                              go_simp
                              with_reducible rfl
                            rotate_left
                            · simp only [Act.put, List.setIfInBounds_toArray, List.set_cons_zero, List.set_cons_succ, i64_w, i32_w]
                              rfl
                            refine take_ (i := 6) (N := some 43) (v := ?_) (a' := ?_) #[true, true, true, true, true, true, true, false, false, false, true, false, false, false, false, false] rfl rfl (take_ofW HT_.out HW_.out (by kernel_rfl)) (fun _ _ _ h => h) (Or.inl ⟨by rfl, ?_⟩) hHeld ?_ ?_
                            rotate_left
                            · rintro w' ⟨s0, s1, s2⟩
                              go_simp
                              with_reducible rfl
                            rotate_left
                            · simp only [Act.put, List.setIfInBounds_toArray, List.set_cons_zero, List.set_cons_succ, i64_w, i32_w]
                              rfl
                            refine pure_ (i := 7) (N := some 44) (v := ?_) (a' := ?_) #[true, true, true, true, true, true, true, true, false, false, true, false, false, false, false, false] rfl rfl (any_of HT_.out (by kernel_rfl)) (fun _ _ _ h => h) (Or.inl ⟨by rfl, ?_⟩) ?_ ?_
                            rotate_left
                            · intro w'
                              go_simp
                              with_reducible rfl
                            rotate_left
                            · simp only [Act.put, List.setIfInBounds_toArray, List.set_cons_zero, List.set_cons_succ, i64_w, i32_w]
                              rfl
                            refine pure_ (i := 8) (N := some 45) (v := ?_) (a' := ?_) #[true, true, true, true, true, true, true, true, true, false, true, false, false, false, false, false] rfl rfl (any_of HT_.out (by kernel_rfl)) (fun _ _ _ h => h) (Or.inl ⟨by rfl, ?_⟩) ?_ ?_
                            rotate_left
                            · intro w'
                              go_simp
                              with_reducible rfl
                            rotate_left
                            · simp only [Act.put, List.setIfInBounds_toArray, List.set_cons_zero, List.set_cons_succ, i64_w, i32_w]
                              rfl
                            refine take_ (i := 9) (N := some 46) (v := ?_) (a' := ?_) #[true, true, true, true, true, true, true, true, true, true, true, false, false, false, false, false] rfl rfl (take_ofW HT_.out HW_.out (by kernel_rfl)) (fun _ _ _ h => h) (Or.inl ⟨by rfl, ?_⟩) hHeld ?_ ?_
                            rotate_left
                            · rintro w' ⟨s0, s1, s2⟩
                              go_simp
                              with_reducible rfl
                            rotate_left
                            · simp only [Act.put, List.setIfInBounds_toArray, List.set_cons_zero, List.set_cons_succ, i64_w, i32_w]
                              rfl
                            refine take_ (i := 11) (N := some 48) (v := ?_) (a' := ?_) #[true, true, true, true, true, true, true, true, true, true, true, true, false, false, false, false] rfl rfl (take_ofW HT_.out HW_.out (by kernel_rfl)) (fun _ _ _ h => h) (Or.inl ⟨by rfl, ?_⟩) hHeld ?_ ?_
                            rotate_left
                            · rintro w' ⟨s0, s1, s2⟩
                              go_simp
                              with_reducible rfl
                            rotate_left
                            · simp only [Act.put, List.setIfInBounds_toArray, List.set_cons_zero, List.set_cons_succ, i64_w, i32_w]
                              rfl
                            refine pure_ (i := 12) (N := some 49) (v := ?_) (a' := ?_) #[true, true, true, true, true, true, true, true, true, true, true, true, true, false, false, false] rfl rfl (any_of HT_.out (by kernel_rfl)) (fun _ _ _ h => h) (Or.inl ⟨by rfl, ?_⟩) ?_ ?_
                            rotate_left
                            · intro w'
                              go_simp
                              with_reducible rfl
                            rotate_left
                            · simp only [Act.put, List.setIfInBounds_toArray, List.set_cons_zero, List.set_cons_succ, i64_w, i32_w]
                              rfl
                            refine pure_ (i := 13) (N := some 50) (v := ?_) (a' := ?_) #[true, true, true, true, true, true, true, true, true, true, true, true, true, true, false, false] rfl rfl (any_of HT_.out (by kernel_rfl)) (fun _ _ _ h => h) (Or.inl ⟨by rfl, ?_⟩) ?_ ?_
                            rotate_left
                            · intro w'
                              go_simp
                              with_reducible rfl
                            rotate_left
                            · simp only [Act.put, List.setIfInBounds_toArray, List.set_cons_zero, List.set_cons_succ, i64_w, i32_w]
                              rfl
                            refine pure_ (i := 14) (N := some 51) (v := ?_) (a' := ?_) #[true, true, true, true, true, true, true, true, true, true, true, true, true, true, true, false] rfl rfl (any_of HT_.out (by kernel_rfl)) (fun _ _ _ h => h) (Or.inl ⟨by rfl, ?_⟩) ?_ ?_
                            rotate_left
                            · intro w'
                              go_simp
                              with_reducible rfl
                            rotate_left
                            · simp only [Act.put, List.setIfInBounds_toArray, List.set_cons_zero, List.set_cons_succ, i64_w, i32_w]
                              rfl
                            refine last_ (i := 15) (N := none) #[true, true, true, true, true, true, true, true, true, true, true, true, true, true, true, true] rfl rfl (one_of HT_.out (by kernel_rfl)) (by decide) (fun K hK => ?_)
                            refine skip_ (w1 := ?_) (by rfl) rfl ?_ ?_
                            rotate_left
                            · go_simp
                              rfl
                            refine hK.out _ _ ?_
                            clear hK K
                            refine done_ (done_of HT_.out (by kernel_rfl)) ?_
                            have n0_ : Aside0 (Kd.R (Kd.int .u8) 5 (w65.setCell ⟨go24, ((ji21) : Int).toNat, none⟩ (.int .u8 (Go.bits .xor .u8 (rd y397 (ji21)) ((a1_1) % 256)))) w.heap.size (fun k_ => some k_ ≠ (.slice (some ⟨go24, 0, none⟩) y397.length co66 : Value).ownBlock) (.slice Ao61 t390.length co61) t390) := ⟨by (with_reducible repeat (first | apply Kd.R_alloc | apply Kd.R_drewN | apply Kd.R_drew)); exact Kd.R_mono (Kd.R_far (p := ⟨go24, ((ji21) : Int).toNat, none⟩) (Kd.R_mono HO_6.out (fun k_ hk => (⟨hk, fun e_ => hk.2 (by rw [e_]; rfl)⟩ : _ ∧ k_ ≠ go24))) (fun _ hk => hk.2) (.int .u8 (Go.bits .xor .u8 (rd y397 (ji21)) ((a1_1) % 256)))) (fun _ hk => hk.1.2)⟩
                            have n1_ : Aside0 (Kd.R (Kd.int .u8) 5 (w65.setCell ⟨go24, ((ji21) : Int).toNat, none⟩ (.int .u8 (Go.bits .xor .u8 (rd y397 (ji21)) ((a1_1) % 256)))) w.heap.size (fun k_ => some k_ ≠ (.slice Ao61 t390.length co61 : Value).ownBlock) (.slice (some ⟨go24, 0, none⟩) y397.length co66) y401) := ⟨by (with_reducible repeat (first | apply Kd.R_alloc | apply Kd.R_drewN | apply Kd.R_drew)); exact HQ67.out⟩
                            have n2_ : Aside0 ((w65.setCell ⟨go24, ((ji21) : Int).toNat, none⟩ (.int .u8 (Go.bits .xor .u8 (rd y397 (ji21)) ((a1_1) % 256)))).heap[gb387]? = some (.cells #[.int .i64 a0_0, .int .i64 a0_1, .int .i64 a0_2] 23 (0, 0))) := ⟨by (with_reducible repeat (first | refine blk_drewN ?_ _ | refine blk_drew ?_ | refine blk_alloc ?_ _)); refine blk_far ?_ (by have h_ := Kd.R_ne HO399.out BK387.out (by decide); intro e_; exact h_ (by rw [e_]; rfl)) _; (with_reducible repeat (first | refine blk_drewN ?_ _ | refine blk_drew ?_ | refine blk_alloc ?_ _)); exact BK387.out⟩
                            have n3_ : Aside0 ((w65.setCell ⟨go24, ((ji21) : Int).toNat, none⟩ (.int .u8 (Go.bits .xor .u8 (rd y397 (ji21)) ((a1_1) % 256)))).heap[gb388]? = some (.cells #[.int .i64 a1_0, .int .i64 a1_1] 45 (0, 0))) := ⟨by (with_reducible repeat (first | refine blk_drewN ?_ _ | refine blk_drew ?_ | refine blk_alloc ?_ _)); refine blk_far ?_ (by have h_ := Kd.R_ne HO399.out BK388.out (by decide); intro e_; exact h_ (by rw [e_]; rfl)) _; (with_reducible repeat (first | refine blk_drewN ?_ _ | refine blk_drew ?_ | refine blk_alloc ?_ _)); exact BK388.out⟩
                            have n4_ : Aside0 (Below w.heap.size w (w65.setCell ⟨go24, ((ji21) : Int).toNat, none⟩ (.int .u8 (Go.bits .xor .u8 (rd y397 (ji21)) ((a1_1) % 256))))) := ⟨by repeat (first | (with_reducible first | exact HB.out | apply below_alloc | apply pw_below_drewN | apply below_drew1 | refine below_set ?_ GB24.out | refine below_set ?_ GE387.out | refine below_set ?_ GE388.out) | exact HB.out)⟩
                            (try clear HO_6)
                            (try clear HO399)
                            (try clear BK387)
                            (try clear BK388)
                            (try clear HB)
                            (try simp only [IntKind.wrap_u8, IntKind.wrap_u32])
                            generalize (w65.setCell ⟨go24, ((ji21) : Int).toNat, none⟩ (.int .u8 (Go.bits .xor .u8 (rd y397 (ji21)) ((a1_1) % 256)))) = w68 at n0_ n1_ n2_ n3_ n4_ ⊢
                            have HO_6 := n0_
                            have HO399 := n1_
                            have BK387 := n2_
                            have BK388 := n3_
                            have HB := n4_
                            clear n0_ n1_ n2_ n3_ n4_
                            try go_wp2_with (first | ((with_reducible refine gate_callee (f := 28) rfl ?_); refine goesL_ (some 54) rfl rfl Try.func28 (by kernel_rfl) rfl #[.slice (some ⟨go24, 0, none⟩) y401.length co66] rfl (by (try simp only [List.map_toArray, List.map_cons, List.map_nil]); first | done | (rw [show y401.length = y397.length from (Kd.R_reads' HO399.out).1.symm] <;> rfl) | rfl | (simp only [List.length_drop, List.length_take]; rfl)) ?_; (with_reducible refine (mark_Read.calls kj4 _ _ y401 t402 t403 t404 t405 _ ?side1 ?side2 A25.out).mono ?_); (case side1 => repeat (first | exact (Kd.R_reads' HO399.out).2.2 | (with_reducible refine Kd.C_alloc ?_ _) | (with_reducible refine Kd.C_drewN ?_ _) | (with_reducible refine Kd.C_drew ?_))); (case side2 => rw [show y401.length = y397.length from (Kd.R_reads' HO399.out).1.symm]; exact (Kd.R_reads' HO399.out).2.1); rintro e w69 ⟨rfl, hb⟩; refine ⟨_, rfl, ?_⟩; have n0_ := Aside0.mk (Kd.R_below (by (with_reducible repeat (first | apply Kd.R_alloc | apply Kd.R_drewN | apply Kd.R_drew)); exact HO_6.out) hb); have n1_ := Aside0.mk (Kd.R_below (by (with_reducible repeat (first | apply Kd.R_alloc | apply Kd.R_drewN | apply Kd.R_drew)); exact HO399.out) hb); have n2_ := Aside0.mk (blk_below (g := gb387) (o := .cells #[.int .i64 a0_0, .int .i64 a0_1, .int .i64 a0_2] 23 (0, 0)) (by (with_reducible repeat (first | refine blk_drewN ?_ _ | refine blk_drew ?_ | refine blk_alloc ?_ _)); exact BK387.out) hb); have n3_ := Aside0.mk (blk_below (g := gb388) (o := .cells #[.int .i64 a1_0, .int .i64 a1_1] 45 (0, 0)) (by (with_reducible repeat (first | refine blk_drewN ?_ _ | refine blk_drew ?_ | refine blk_alloc ?_ _)); exact BK388.out) hb); have n4_ := Aside0.mk (below_step (by repeat (first | (with_reducible first | exact HB.out | apply below_alloc | apply pw_below_drewN | apply below_drew1 | refine below_set ?_ GE387.out | refine below_set ?_ GE388.out) | exact HB.out)) hb); clear HO_6; clear HO399; clear BK387; clear BK388; clear HB; have HO_6 := n0_; have HO399 := n1_; have BK387 := n2_; have BK388 := n3_; have HB := n4_; clear n0_ n1_ n2_ n3_ n4_; (try clear hb); (try clear hb2); (try clear hk); (try clear hi)) | ((with_reducible refine gate_dst (N := 9) rfl ?_); refine box_event ?hg (N := 9) ?hd (cs := #[.int .i64 0, .int .i64 0, .int .i64 0]) (t := 23) ?hr ?_; (case hd => rfl); (case hg => rfl); (case hr => first | (go_simp; done) | (go_simp; rfl)); intro gb406 hg w70 hbox hb; have n0_ := Aside0.mk (Kd.R_below (by (with_reducible repeat (first | apply Kd.R_alloc | apply Kd.R_drewN | apply Kd.R_drew)); exact HO_6.out) hb); have n1_ := Aside0.mk (Kd.R_below (by (with_reducible repeat (first | apply Kd.R_alloc | apply Kd.R_drewN | apply Kd.R_drew)); exact HO399.out) hb); have n2_ := Aside0.mk (blk_below (g := gb387) (o := .cells #[.int .i64 a0_0, .int .i64 a0_1, .int .i64 a0_2] 23 (0, 0)) (by (with_reducible repeat (first | refine blk_drewN ?_ _ | refine blk_drew ?_ | refine blk_alloc ?_ _)); exact BK387.out) hb); have n3_ := Aside0.mk (blk_below (g := gb388) (o := .cells #[.int .i64 a1_0, .int .i64 a1_1] 45 (0, 0)) (by (with_reducible repeat (first | refine blk_drewN ?_ _ | refine blk_drew ?_ | refine blk_alloc ?_ _)); exact BK388.out) hb); have n4_ := Aside0.mk (below_step (by repeat (first | (with_reducible first | exact HB.out | apply below_alloc | apply pw_below_drewN | apply below_drew1 | refine below_set ?_ GE387.out | refine below_set ?_ GE388.out) | exact HB.out)) hb); have n5_ := Aside0.mk (hbox); have n6_ := Aside0.mk ((by rw [hg]; exact (below_size (by repeat (first | (with_reducible first | exact HB.out | apply below_alloc | apply pw_below_drewN | apply below_drew1 | refine below_set ?_ GE387.out | refine below_set ?_ GE388.out) | exact HB.out))) : w.heap.size ≤ gb406)); have n7_ := Aside0.mk ((by rw [hg]; exact (below_size (by repeat (first | (with_reducible first | exact HB.out | apply below_alloc | apply pw_below_drewN | apply below_drew1 | refine below_set ?_ GE387.out | refine below_set ?_ GE388.out) | exact HB.out))) : w.heap.size ≤ gb406)); have n8_ := Aside0.mk ((by rw [hg]; exact Nat.ne_of_lt (blk_lt (g := gb387) (o := .cells #[.int .i64 a0_0, .int .i64 a0_1, .int .i64 a0_2] 23 (0, 0)) (by (with_reducible repeat (first | refine blk_drewN ?_ _ | refine blk_drew ?_ | refine blk_alloc ?_ _)); exact BK387.out)) : gb387 ≠ gb406)); have n9_ := Aside0.mk ((by rw [hg]; exact Nat.ne_of_gt (blk_lt (g := gb387) (o := .cells #[.int .i64 a0_0, .int .i64 a0_1, .int .i64 a0_2] 23 (0, 0)) (by (with_reducible repeat (first | refine blk_drewN ?_ _ | refine blk_drew ?_ | refine blk_alloc ?_ _)); exact BK387.out)) : gb406 ≠ gb387)); have n10_ := Aside0.mk ((by rw [hg]; exact Nat.ne_of_lt (blk_lt (g := gb388) (o := .cells #[.int .i64 a1_0, .int .i64 a1_1] 45 (0, 0)) (by (with_reducible repeat (first | refine blk_drewN ?_ _ | refine blk_drew ?_ | refine blk_alloc ?_ _)); exact BK388.out)) : gb388 ≠ gb406)); have n11_ := Aside0.mk ((by rw [hg]; exact Nat.ne_of_gt (blk_lt (g := gb388) (o := .cells #[.int .i64 a1_0, .int .i64 a1_1] 45 (0, 0)) (by (with_reducible repeat (first | refine blk_drewN ?_ _ | refine blk_drew ?_ | refine blk_alloc ?_ _)); exact BK388.out)) : gb406 ≠ gb388)); clear HO_6; clear HO399; clear BK387; clear BK388; clear HB; have HO_6 := n0_; have HO399 := n1_; have BK387 := n2_; have BK388 := n3_; have HB := n4_; have BK406 := n5_; have GW406 := n6_; have GE406 := n7_; have NB387_406 := n8_; have NB406_387 := n9_; have NB388_406 := n10_; have NB406_388 := n11_; clear n0_ n1_ n2_ n3_ n4_ n5_ n6_ n7_ n8_ n9_ n10_ n11_; clear hb hbox hg; have hnb71 := NB406_387.out; have hnc71 := NB387_406.out; have hnb72 := NB406_388.out; have hnc72 := NB388_406.out; have hcz73_0 : w70.cell? ⟨gb406, 0, none⟩ = some (.int .i64 0) := (blk_cell BK406.out 0).trans rfl; have hcz73_1 : w70.cell? ⟨gb406, 1, none⟩ = some (.int .i64 0) := (blk_cell BK406.out 1).trans rfl; have hcz73_2 : w70.cell? ⟨gb406, 2, none⟩ = some (.int .i64 0) := (blk_cell BK406.out 2).trans rfl; have hfz73_0 := blk_frozen BK406.out 0; have hfz73_1 := blk_frozen BK406.out 1; have hfz73_2 := blk_frozen BK406.out 2; have hnb74 := NB388_387.out; have hnc74 := NB387_388.out; have hcz75_0 : w70.cell? ⟨gb388, 0, none⟩ = some (.int .i64 a1_0) := (blk_cell BK388.out 0).trans rfl; have hcz75_1 : w70.cell? ⟨gb388, 1, none⟩ = some (.int .i64 a1_1) := (blk_cell BK388.out 1).trans rfl; have hfz75_0 := blk_frozen BK388.out 0; have hfz75_1 := blk_frozen BK388.out 1; have p407 : 0 ≤ (2 : Int) := (by omega); have q407 : 2 < (y401.length : Int) := (by have h_ : (2 : Int) < ((y397.length : Int) : Int) := of_decide_eq_true (by first | (with_reducible assumption) | assumption); first | (have e_ := (Kd.R_reads' HO399.out).1; omega) | simpa only [Ny401.out, List.length_set] using h_); have ql407 : ((2 : Int) < ((y397.length : Int) : Int)) = True := eq_true (of_decide_eq_true (by first | (with_reducible assumption) | assumption)); (try have qn407 : (2 < y397.length) = True := eq_true (by have h_ : (2 : Int) < ((y397.length : Int) : Int) := of_decide_eq_true (by first | (with_reducible assumption) | assumption); omega)); obtain ⟨ad407, e407, hx407_0⟩ := Kd.at_int (Kd.R_reads' HO399.out).2.2 2 p407 q407; obtain rfl : (⟨go24, 0, none⟩ : Addr) = ad407 := (by injection e407); (first | simp only [add_plain] at hx407_0 | simp only [add_at] at hx407_0 | simp only [Addr.add, Nat.zero_add] at hx407_0 | skip); have qi407 : (2 < y401.length) = True := eq_true (by omega); (try rw [show ((2 : Int)).toNat = 2 from rfl] at hx407_0); have hn407_0 : (⟨go24, 0, none⟩ : Addr).block ≠ gb406 := Kd.own_blk (Kd.R_ne HO399.out BK406.out (by decide)); have hn407_1 : (⟨go24, 0, none⟩ : Addr).block ≠ gb406 := Kd.own_blk (Kd.R_ne HO399.out BK406.out (by decide)); have hn407_2 : (⟨go24, 0, none⟩ : Addr).block ≠ gb406 := Kd.own_blk (Kd.R_ne HO399.out BK406.out (by decide)); replace hx407_0 := (cell_far (p := ⟨gb406, 0, none⟩) (by first | (rw [add_block]; exact hn407_0) | (show (Addr.add _ _).block ≠ _; rw [add_block]; exact hn407_0) | exact hn407_0) (.int .i64 t402)).trans hx407_0; replace hx407_0 := (cell_far (p := ⟨gb406, 1, none⟩) (by first | (rw [add_block]; exact hn407_1) | (show (Addr.add _ _).block ≠ _; rw [add_block]; exact hn407_1) | exact hn407_1) (.int .i64 t403)).trans hx407_0; replace hx407_0 := (cell_far (p := ⟨gb406, 2, none⟩) (by first | (rw [add_block]; exact hn407_2) | (show (Addr.add _ _).block ≠ _; rw [add_block]; exact hn407_2) | exact hn407_2) (.int .i64 t404)).trans hx407_0; clear hn407_0; clear hn407_1; clear hn407_2; replace p407 := eq_true p407; replace q407 := eq_true q407))
                            go_ret
                            exact ⟨by first | rfl | (simp [errW_none, errW_some] <;> rfl) | (simp only [← hji21]; first | rfl | (simp [errW_none, errW_some] <;> rfl)) | (simp [*, errW_none, errW_some] <;> rfl), by repeat (first | (with_reducible first | exact HB.out | apply below_alloc | apply pw_below_drewN | apply below_drew1 | refine below_set ?_ GE387.out | refine below_set ?_ GE388.out | refine below_set ?_ GE406.out) | exact HB.out)⟩
                          · rw [if_neg c60] at H
                            exact absurd H (by simp)
                        · rw [if_neg c59] at H
                          have c59b0 : ((ji21) == 2) = false := beq_eq_false_iff_ne.mpr c59
                          have c59b1 : ((ji21) != 2) = true := bne_iff_ne.mpr c59
                          obtain rfl := Option.some.inj H
                          obtain ⟨Ao76, co76, eo76⟩ := Kd.R_slice HO_6.out
                          subst eo76
                          try go_wp2_with (first | ((with_reducible refine gate_dst (N := 34) rfl ?_); refine Kd.R_lit (Kd.int .u8) _ 5 ?hg (N := 34) ?hd (xs := ([] : List Int)) (inner := []) (ok := fun _ => True) (okp := fun _ => True) ?hr ?hp (fun _ hk => hk) trivial (Below.refl _ _) (Nat.le_refl _) (by simp) ?_; (case hd => rfl); (case hg => rfl); (case hr => first | (go_simp; done) | (go_simp; rfl)); (case hp => exact (Reps.none _ _)); intro v395 w77 ho78 hb hg_ hnew_; clear hg_ hnew_; (first | rw [← Ny394.out] at ho78 | (simp only [Int.reduceToNat] at ho78; rw [← Ny394.out] at ho78)); have n0_ := Aside0.mk (Kd.R_elder' (by (with_reducible repeat (first | apply Kd.R_alloc | apply Kd.R_drewN | apply Kd.R_drew)); exact HO_6.out) (Kd.R_base ho78) hb); have n1_ := Aside0.mk (Kd.R_lower (Kd.R_new' ho78 (Kd.R_lt (by (with_reducible repeat (first | apply Kd.R_alloc | apply Kd.R_drewN | apply Kd.R_drew)); exact HO_6.out))) (below_size (by repeat (first | (with_reducible first | exact HB.out | apply below_alloc | apply pw_below_drewN | apply below_drew1 | refine below_set ?_ GE387.out | refine below_set ?_ GE388.out) | exact HB.out)))); have n2_ := Aside0.mk (blk_below (g := gb387) (o := .cells #[.int .i64 a0_0, .int .i64 a0_1, .int .i64 a0_2] 23 (0, 0)) (by (with_reducible repeat (first | refine blk_drewN ?_ _ | refine blk_drew ?_ | refine blk_alloc ?_ _)); exact BK387.out) hb); have n3_ := Aside0.mk (blk_below (g := gb388) (o := .cells #[.int .i64 a1_0, .int .i64 a1_1] 45 (0, 0)) (by (with_reducible repeat (first | refine blk_drewN ?_ _ | refine blk_drew ?_ | refine blk_alloc ?_ _)); exact BK388.out) hb); have n4_ := Aside0.mk (below_step (by repeat (first | (with_reducible first | exact HB.out | apply below_alloc | apply pw_below_drewN | apply below_drew1 | refine below_set ?_ GE387.out | refine below_set ?_ GE388.out) | exact HB.out)) hb); clear HO_6; clear BK387; clear BK388; clear HB; have HO_6 := n0_; have HO396 := n1_; have BK387 := n2_; have BK388 := n3_; have HB := n4_; clear n0_ n1_ n2_ n3_ n4_; clear hb ho78) | ((with_reducible refine gate_builtin (b := .append) (xs := #[.tmp 34, .tmp 35]) rfl ?_); at_builtin; refine Kd.R_append_rows (Kd.int .u8) (w0 := w) w.heap.size rfl (.tmp 34) (.tmp 35) 25 5 (.int .u8 0) 1 rfl Try.underlying25 info5 rfl (by decide) (by omega) v395 y394 t390 _ _ _ (fun k_ => some k_ ≠ (.slice Ao76 t390.length co76 : Value).ownBlock) (fun _ => False) rfl rfl ?aO ?aR (fun _ _ h => h) (fun _ h => h.elim) ?aF ?aB ?aS ?aL ?_; (case aR => repeat (first | exact (Kd.R_reads' HO_6.out).2.2 | (with_reducible refine Kd.C_alloc ?_ _) | (with_reducible refine Kd.C_drewN ?_ _) | (with_reducible refine Kd.C_drew ?_))); (case aB => exact (by repeat (first | (with_reducible first | exact HB.out | apply below_alloc | apply pw_below_drewN | apply below_drew1 | refine below_set ?_ GE387.out | refine below_set ?_ GE388.out) | exact HB.out))); (case aF => exact (fun k_ hk => Kd.fresh' (Kd.R_lt (by (with_reducible repeat (first | apply Kd.R_alloc | apply Kd.R_drewN | apply Kd.R_drew)); exact HO_6.out)) k_ hk)); (case aO => exact (by (with_reducible repeat (first | apply Kd.R_alloc | apply Kd.R_drewN | apply Kd.R_drew)); exact Kd.R_mono HO396.out (fun _ hk => hk.2))); (case aS => exact (below_size (by repeat (first | (with_reducible first | exact HB.out | apply below_alloc | apply pw_below_drewN | apply below_drew1 | refine below_set ?_ GE387.out | refine below_set ?_ GE388.out) | exact HB.out)))); (case aL => have := LMc20.out; omega); intro v398 w79 ho hb hg hat; rw [← Ny397.out] at ho; have n0_ := Aside0.mk (Kd.R_after (ok := (fun _ => True)) (by (with_reducible repeat (first | apply Kd.R_alloc | apply Kd.R_drewN | apply Kd.R_drew)); exact HO_6.out) hg hat); have n1_ := Aside0.mk (blk_grown (g := gb387) (o := .cells #[.int .i64 a0_0, .int .i64 a0_1, .int .i64 a0_2] 23 (0, 0)) (by (with_reducible repeat (first | refine blk_drewN ?_ _ | refine blk_drew ?_ | refine blk_alloc ?_ _)); exact BK387.out) hg (Kd.R_ne HO396.out BK387.out (by decide))); have n2_ := Aside0.mk (blk_grown (g := gb388) (o := .cells #[.int .i64 a1_0, .int .i64 a1_1] 45 (0, 0)) (by (with_reducible repeat (first | refine blk_drewN ?_ _ | refine blk_drew ?_ | refine blk_alloc ?_ _)); exact BK388.out) hg (Kd.R_ne HO396.out BK388.out (by decide))); have n3_ := Aside0.mk (hb); have n4_ := Aside0.mk (ho); clear HO_6; clear BK387; clear BK388; clear HB; clear HO396; have HO_6 := n0_; have BK387 := n1_; have BK388 := n2_; have HB := n3_; have HO399 := n4_; clear n0_ n1_ n2_ n3_ n4_; clear ho hb hg hat))
                          (try (rw [drewN_self w79]; generalize hq_ : World.drewN w79 _ = w79; have n0_ : Aside0 (Kd.R (Kd.int .u8) 5 w79 w.heap.size (fun k_ => some k_ ≠ (.slice Ao76 t390.length co76 : Value).ownBlock) v398 y397) := ⟨by rw [← hq_]; exact (by (with_reducible repeat (first | apply Kd.R_alloc | apply Kd.R_drewN | apply Kd.R_drew)); exact HO399.out)⟩; have n1_ : Aside0 (Kd.R (Kd.int .u8) 5 w79 w.heap.size (fun k_ => some k_ ≠ (v398 : Value).ownBlock) (.slice Ao76 t390.length co76) t390) := ⟨by rw [← hq_]; exact (by (with_reducible repeat (first | apply Kd.R_alloc | apply Kd.R_drewN | apply Kd.R_drew)); exact Kd.R_mono HO_6.out (fun _ hk => hk.2))⟩; have n2_ : Aside0 (w79.heap[gb387]? = some (.cells #[.int .i64 a0_0, .int .i64 a0_1, .int .i64 a0_2] 23 (0, 0))) := ⟨by rw [← hq_]; exact (by (with_reducible repeat (first | refine blk_drewN ?_ _ | refine blk_drew ?_ | refine blk_alloc ?_ _)); exact BK387.out)⟩; have n3_ : Aside0 (w79.heap[gb388]? = some (.cells #[.int .i64 a1_0, .int .i64 a1_1] 45 (0, 0))) := ⟨by rw [← hq_]; exact (by (with_reducible repeat (first | refine blk_drewN ?_ _ | refine blk_drew ?_ | refine blk_alloc ?_ _)); exact BK388.out)⟩; have n4_ : Aside0 (Below w.heap.size w w79) := ⟨by rw [← hq_]; exact (by repeat (first | (with_reducible first | exact HB.out | apply below_alloc | apply pw_below_drewN | apply below_drew1 | refine below_set ?_ GE387.out | refine below_set ?_ GE388.out) | exact HB.out))⟩; clear HO399 HO_6 BK387 BK388 HB hq_; have HO399 := n0_; have HO_6 := n1_; have BK387 := n2_; have BK388 := n3_; have HB := n4_; clear n0_ n1_ n2_ n3_ n4_))
                          have n0_ := Aside0.mk (Kd.R_drew HO_6.out)
                          have n1_ := Aside0.mk (Kd.R_drew HO399.out)
                          have n2_ := Aside0.mk (blk_drew BK387.out)
                          have n3_ := Aside0.mk (blk_drew BK388.out)
                          have n4_ := Aside0.mk (below_drew1 HB.out)
                          clear HO_6
                          clear HO399
                          clear BK387
                          clear BK388
                          clear HB
                          have HO_6 := n0_
                          have HO399 := n1_
                          have BK387 := n2_
                          have BK388 := n3_
                          have HB := n4_
                          clear n0_ n1_ n2_ n3_ n4_
                          obtain ⟨Ao81, co81, eo81⟩ := Kd.R_slice HO399.out
                          (first | subst eo81 | (injection eo81 with f1_ f2_ f3_; have f4_ := f1_.symm; have f5_ := f3_.symm; clear f1_ f2_ f3_; subst f4_; subst f5_))
                          have p400 : 0 ≤ ((ji21) : Int) := of_decide_eq_true (by first | (with_reducible assumption) | assumption)
                          have q400 : (ji21) < (y397.length : Int) := of_decide_eq_true (by first | (with_reducible assumption) | assumption)
                          obtain ⟨ad400, e400, hx400_0⟩ := Kd.at_int (Kd.R_reads' HO399.out).2.2 (ji21) p400 q400
                          cases e400
                          replace p400 := eq_true p400
                          replace q400 := eq_true q400
                          have p24 : 0 ≤ ((ji21) : Int) := of_decide_eq_true (by first | (with_reducible assumption) | assumption)
                          have q24 : ((ji21) : Int) < ((y397.length : Int) : Int) := of_decide_eq_true (by first | (with_reducible assumption) | assumption)
                          obtain ⟨go24, co24, eo24, gb24, gl24, cl24, HG24⟩ := Kd.R_form HO399.out (by omega)
                          (first | cases eo24 | (injection eo24 with ea_ en_ ec_; (first | subst ea_ | (injection ea_ with ea_; subst ea_)); subst ec_; clear en_))
                          have GB24 := Aside0.mk gb24
                          have GG24 := Aside0.mk HG24
                          clear gb24 gl24 HG24
                          (first | simp only [add_plain] at hx400_0 | skip)
                          obtain ⟨hx24_0, hf24_0⟩ := Kd.R_celln 0 HO399.out ((ji21) : Int) p24 q24
                          replace p24 := eq_true p24
                          replace q24 := eq_true q24
                          have HP82 := Kd.R_putn HO399.out ((ji21) : Int) (Go.bits .xor .u8 (rd y397 (ji21)) ((a1_1) % 256))
                          rw [← Ny401.out] at HP82
                          have HQ82 := Aside0.mk HP82
                          clear HP82
                          refine start_ (n := 16) (S := fun w' => w'.cell? ⟨gb388, 0, none⟩ = some (.int .i64 a1_0) ∧ w'.cell? ⟨gb388, 1, none⟩ = some (.int .i64 a1_1) ∧ w'.cell? ⟨go24, ((ji21)).toNat, none⟩ = some (.int .u8 (rd y397 (ji21)))) (ds := [15]) #[false, false, false, false, false, false, false, false, false, false, false, false, false, false, false, false] (by kernel_rfl) rfl rfl ⟨(blk_cell BK388.out 0).trans rfl, (blk_cell BK388.out 1).trans rfl, hx400_0⟩ (fun hHeld => ?_); refine with_tabW strakelaw06_MarkTurned.tab8 strakelaw06_MarkTurned.bits8 (fun HT_ HW_ => ?_)
                          generalize w79.drew = w80 at HO_6 HO399 BK387 BK388 HB GG24 HQ82 hf24_0 hx24_0 hx400_0 hHeld ⊢
                          refine pure_ (i := 0) (N := some 37) (v := ?_) (a' := ?_) #[true, false, false, false, false, false, false, false, false, false, false, false, false, false, false, false] rfl rfl (any_of HT_.out (by kernel_rfl)) (fun _ _ _ h => h) (Or.inl ⟨by rfl, ?_⟩) ?_ ?_
                          rotate_left
                          · intro w'
                            go_simp
                            with_reducible rfl
                          rotate_left
                          · simp only [Act.put, List.setIfInBounds_toArray, List.set_cons_zero, List.set_cons_succ, i64_w, i32_w]
                            rfl
                          refine pure_ (i := 1) (N := some 38) (v := ?_) (a' := ?_) #[true, true, false, false, false, false, false, false, false, false, false, false, false, false, false, false] rfl rfl (any_of HT_.out (by kernel_rfl)) (fun _ _ _ h => h) (Or.inl ⟨by rfl, ?_⟩) ?_ ?_
                          rotate_left
                          · intro w'
                            go_simp
                            with_reducible rfl
                          rotate_left
                          · simp only [Act.put, List.setIfInBounds_toArray, List.set_cons_zero, List.set_cons_succ, i64_w, i32_w]
                            rfl
                          refine pure_ (i := 4) (N := some 41) (v := ?_) (a' := ?_) #[true, true, false, false, true, false, false, false, false, false, false, false, false, false, false, false] rfl rfl (any_of HT_.out (by kernel_rfl)) (fun _ _ _ h => h) (Or.inl ⟨by rfl, ?_⟩) ?_ ?_
                          rotate_left
                          · intro w'
                            go_simp
                            with_reducible rfl
                          rotate_left
                          · simp only [Act.put, List.setIfInBounds_toArray, List.set_cons_zero, List.set_cons_succ, i64_w, i32_w]
                            rfl
                          refine pure_ (i := 5) (N := some 42) (v := ?_) (a' := ?_) #[true, true, false, false, true, true, false, false, false, false, false, false, false, false, false, false] rfl rfl (any_of HT_.out (by kernel_rfl)) (fun _ _ _ h => h) (Or.inl ⟨by rfl, ?_⟩) ?_ ?_
                          rotate_left
                          · intro w'
                            go_simp
                            with_reducible rfl
                          rotate_left
                          · simp only [Act.put, List.setIfInBounds_toArray, List.set_cons_zero, List.set_cons_succ, i64_w, i32_w]
                            rfl
                          refine pure_ (i := 10) (N := some 47) (v := ?_) (a' := ?_) #[true, true, false, false, true, true, false, false, false, false, true, false, false, false, false, false] rfl rfl (any_of HT_.out (by kernel_rfl)) (fun _ _ _ h => h) (Or.inl ⟨by rfl, ?_⟩) ?_ ?_
                          rotate_left
                          · intro w'
                            go_simp
                            with_reducible rfl
                          rotate_left
                          · simp only [Act.put, List.setIfInBounds_toArray, List.set_cons_zero, List.set_cons_succ, i64_w, i32_w]
                            rfl
                          refine take_ (i := 2) (N := some 39) (v := ?_) (a' := ?_) #[true, true, true, false, true, true, false, false, false, false, true, false, false, false, false, false] rfl rfl (take_ofW HT_.out HW_.out (by kernel_rfl)) (fun _ _ _ h => h) (Or.inl ⟨by rfl, ?_⟩) hHeld ?_ ?_
                          rotate_left
                          · rintro w' ⟨s0, s1, s2⟩
                            go_simp
                            with_reducible rfl
                          rotate_left
                          · simp only [Act.put, List.setIfInBounds_toArray, List.set_cons_zero, List.set_cons_succ, i64_w, i32_w]
                            rfl
                          refine pure_ (i := 3) (N := some 40) (v := ?_) (a' := ?_) #[true, true, true, true, true, true, false, false, false, false, true, false, false, false, false, false] rfl rfl (any_of HT_.out (by kernel_rfl)) (fun _ _ _ h => h) (Or.inl ⟨by rfl, ?_⟩) ?_ ?_
                          rotate_left
                          · intro w'
                            go_simp
                            with_reducible rfl
                          rotate_left
                          · simp only [Act.put, List.setIfInBounds_toArray, List.set_cons_zero, List.set_cons_succ, i64_w, i32_w]
                            rfl
                          refine take_ (i := 6) (N := some 43) (v := ?_) (a' := ?_) #[true, true, true, true, true, true, true, false, false, false, true, false, false, false, false, false] rfl rfl (take_ofW HT_.out HW_.out (by kernel_rfl)) (fun _ _ _ h => h) (Or.inl ⟨by rfl, ?_⟩) hHeld ?_ ?_
                          rotate_left
                          · rintro w' ⟨s0, s1, s2⟩
                            go_simp
                            with_reducible rfl
                          rotate_left
                          · simp only [Act.put, List.setIfInBounds_toArray, List.set_cons_zero, List.set_cons_succ, i64_w, i32_w]
                            rfl
                          refine pure_ (i := 7) (N := some 44) (v := ?_) (a' := ?_) #[true, true, true, true, true, true, true, true, false, false, true, false, false, false, false, false] rfl rfl (any_of HT_.out (by kernel_rfl)) (fun _ _ _ h => h) (Or.inl ⟨by rfl, ?_⟩) ?_ ?_
                          rotate_left
                          · intro w'
                            go_simp
                            with_reducible rfl
                          rotate_left
                          · simp only [Act.put, List.setIfInBounds_toArray, List.set_cons_zero, List.set_cons_succ, i64_w, i32_w]
                            rfl
                          refine pure_ (i := 8) (N := some 45) (v := ?_) (a' := ?_) #[true, true, true, true, true, true, true, true, true, false, true, false, false, false, false, false] rfl rfl (any_of HT_.out (by kernel_rfl)) (fun _ _ _ h => h) (Or.inl ⟨by rfl, ?_⟩) ?_ ?_
                          rotate_left
                          · intro w'
                            go_simp
                            with_reducible rfl
                          rotate_left
                          · simp only [Act.put, List.setIfInBounds_toArray, List.set_cons_zero, List.set_cons_succ, i64_w, i32_w]
                            rfl
                          refine take_ (i := 9) (N := some 46) (v := ?_) (a' := ?_) #[true, true, true, true, true, true, true, true, true, true, true, false, false, false, false, false] rfl rfl (take_ofW HT_.out HW_.out (by kernel_rfl)) (fun _ _ _ h => h) (Or.inl ⟨by rfl, ?_⟩) hHeld ?_ ?_
                          rotate_left
                          · rintro w' ⟨s0, s1, s2⟩
                            go_simp
                            with_reducible rfl
                          rotate_left
                          · simp only [Act.put, List.setIfInBounds_toArray, List.set_cons_zero, List.set_cons_succ, i64_w, i32_w]
                            rfl
                          refine take_ (i := 11) (N := some 48) (v := ?_) (a' := ?_) #[true, true, true, true, true, true, true, true, true, true, true, true, false, false, false, false] rfl rfl (take_ofW HT_.out HW_.out (by kernel_rfl)) (fun _ _ _ h => h) (Or.inl ⟨by rfl, ?_⟩) hHeld ?_ ?_
                          rotate_left
                          · rintro w' ⟨s0, s1, s2⟩
                            go_simp
                            with_reducible rfl
                          rotate_left
                          · simp only [Act.put, List.setIfInBounds_toArray, List.set_cons_zero, List.set_cons_succ, i64_w, i32_w]
                            rfl
                          refine pure_ (i := 12) (N := some 49) (v := ?_) (a' := ?_) #[true, true, true, true, true, true, true, true, true, true, true, true, true, false, false, false] rfl rfl (any_of HT_.out (by kernel_rfl)) (fun _ _ _ h => h) (Or.inl ⟨by rfl, ?_⟩) ?_ ?_
                          rotate_left
                          · intro w'
                            go_simp
                            with_reducible rfl
                          rotate_left
                          · simp only [Act.put, List.setIfInBounds_toArray, List.set_cons_zero, List.set_cons_succ, i64_w, i32_w]
                            rfl
                          refine pure_ (i := 13) (N := some 50) (v := ?_) (a' := ?_) #[true, true, true, true, true, true, true, true, true, true, true, true, true, true, false, false] rfl rfl (any_of HT_.out (by kernel_rfl)) (fun _ _ _ h => h) (Or.inl ⟨by rfl, ?_⟩) ?_ ?_
                          rotate_left
                          · intro w'
                            go_simp
                            with_reducible rfl
                          rotate_left
                          · simp only [Act.put, List.setIfInBounds_toArray, List.set_cons_zero, List.set_cons_succ, i64_w, i32_w]
                            rfl
                          refine pure_ (i := 14) (N := some 51) (v := ?_) (a' := ?_) #[true, true, true, true, true, true, true, true, true, true, true, true, true, true, true, false] rfl rfl (any_of HT_.out (by kernel_rfl)) (fun _ _ _ h => h) (Or.inl ⟨by rfl, ?_⟩) ?_ ?_
                          rotate_left
                          · intro w'
                            go_simp
                            with_reducible rfl
                          rotate_left
                          · simp only [Act.put, List.setIfInBounds_toArray, List.set_cons_zero, List.set_cons_succ, i64_w, i32_w]
                            rfl
                          refine last_ (i := 15) (N := none) #[true, true, true, true, true, true, true, true, true, true, true, true, true, true, true, true] rfl rfl (one_of HT_.out (by kernel_rfl)) (by decide) (fun K hK => ?_)
                          refine skip_ (w1 := ?_) (by rfl) rfl ?_ ?_
                          rotate_left
                          · go_simp
                            rfl
                          refine hK.out _ _ ?_
                          clear hK K
                          refine done_ (done_of HT_.out (by kernel_rfl)) ?_
                          have n0_ : Aside0 (Kd.R (Kd.int .u8) 5 (w80.setCell ⟨go24, ((ji21) : Int).toNat, none⟩ (.int .u8 (Go.bits .xor .u8 (rd y397 (ji21)) ((a1_1) % 256)))) w.heap.size (fun k_ => some k_ ≠ (.slice (some ⟨go24, 0, none⟩) y397.length co81 : Value).ownBlock) (.slice Ao76 t390.length co76) t390) := ⟨by (with_reducible repeat (first | apply Kd.R_alloc | apply Kd.R_drewN | apply Kd.R_drew)); exact Kd.R_mono (Kd.R_far (p := ⟨go24, ((ji21) : Int).toNat, none⟩) (Kd.R_mono HO_6.out (fun k_ hk => (⟨hk, fun e_ => hk.2 (by rw [e_]; rfl)⟩ : _ ∧ k_ ≠ go24))) (fun _ hk => hk.2) (.int .u8 (Go.bits .xor .u8 (rd y397 (ji21)) ((a1_1) % 256)))) (fun _ hk => hk.1.2)⟩
                          have n1_ : Aside0 (Kd.R (Kd.int .u8) 5 (w80.setCell ⟨go24, ((ji21) : Int).toNat, none⟩ (.int .u8 (Go.bits .xor .u8 (rd y397 (ji21)) ((a1_1) % 256)))) w.heap.size (fun k_ => some k_ ≠ (.slice Ao76 t390.length co76 : Value).ownBlock) (.slice (some ⟨go24, 0, none⟩) y397.length co81) y401) := ⟨by (with_reducible repeat (first | apply Kd.R_alloc | apply Kd.R_drewN | apply Kd.R_drew)); exact HQ82.out⟩
                          have n2_ : Aside0 ((w80.setCell ⟨go24, ((ji21) : Int).toNat, none⟩ (.int .u8 (Go.bits .xor .u8 (rd y397 (ji21)) ((a1_1) % 256)))).heap[gb387]? = some (.cells #[.int .i64 a0_0, .int .i64 a0_1, .int .i64 a0_2] 23 (0, 0))) := ⟨by (with_reducible repeat (first | refine blk_drewN ?_ _ | refine blk_drew ?_ | refine blk_alloc ?_ _)); refine blk_far ?_ (by have h_ := Kd.R_ne HO399.out BK387.out (by decide); intro e_; exact h_ (by rw [e_]; rfl)) _; (with_reducible repeat (first | refine blk_drewN ?_ _ | refine blk_drew ?_ | refine blk_alloc ?_ _)); exact BK387.out⟩
                          have n3_ : Aside0 ((w80.setCell ⟨go24, ((ji21) : Int).toNat, none⟩ (.int .u8 (Go.bits .xor .u8 (rd y397 (ji21)) ((a1_1) % 256)))).heap[gb388]? = some (.cells #[.int .i64 a1_0, .int .i64 a1_1] 45 (0, 0))) := ⟨by (with_reducible repeat (first | refine blk_drewN ?_ _ | refine blk_drew ?_ | refine blk_alloc ?_ _)); refine blk_far ?_ (by have h_ := Kd.R_ne HO399.out BK388.out (by decide); intro e_; exact h_ (by rw [e_]; rfl)) _; (with_reducible repeat (first | refine blk_drewN ?_ _ | refine blk_drew ?_ | refine blk_alloc ?_ _)); exact BK388.out⟩
                          have n4_ : Aside0 (Below w.heap.size w (w80.setCell ⟨go24, ((ji21) : Int).toNat, none⟩ (.int .u8 (Go.bits .xor .u8 (rd y397 (ji21)) ((a1_1) % 256))))) := ⟨by repeat (first | (with_reducible first | exact HB.out | apply below_alloc | apply pw_below_drewN | apply below_drew1 | refine below_set ?_ GB24.out | refine below_set ?_ GE387.out | refine below_set ?_ GE388.out) | exact HB.out)⟩
                          (try clear HO_6)
                          (try clear HO399)
                          (try clear BK387)
                          (try clear BK388)
                          (try clear HB)
                          (try simp only [IntKind.wrap_u8, IntKind.wrap_u32])
                          generalize (w80.setCell ⟨go24, ((ji21) : Int).toNat, none⟩ (.int .u8 (Go.bits .xor .u8 (rd y397 (ji21)) ((a1_1) % 256)))) = w83 at n0_ n1_ n2_ n3_ n4_ ⊢
                          have HO_6 := n0_
                          have HO399 := n1_
                          have BK387 := n2_
                          have BK388 := n3_
                          have HB := n4_
                          clear n0_ n1_ n2_ n3_ n4_
                          try go_wp2_with (first | ((with_reducible refine gate_callee (f := 28) rfl ?_); refine goesL_ (some 54) rfl rfl Try.func28 (by kernel_rfl) rfl #[.slice (some ⟨go24, 0, none⟩) y401.length co81] rfl (by (try simp only [List.map_toArray, List.map_cons, List.map_nil]); first | done | (rw [show y401.length = y397.length from (Kd.R_reads' HO399.out).1.symm] <;> rfl) | rfl | (simp only [List.length_drop, List.length_take]; rfl)) ?_; (with_reducible refine (mark_Read.calls kj4 _ _ y401 t402 t403 t404 t405 _ ?side1 ?side2 A25.out).mono ?_); (case side1 => repeat (first | exact (Kd.R_reads' HO399.out).2.2 | (with_reducible refine Kd.C_alloc ?_ _) | (with_reducible refine Kd.C_drewN ?_ _) | (with_reducible refine Kd.C_drew ?_))); (case side2 => rw [show y401.length = y397.length from (Kd.R_reads' HO399.out).1.symm]; exact (Kd.R_reads' HO399.out).2.1); rintro e w84 ⟨rfl, hb⟩; refine ⟨_, rfl, ?_⟩; have n0_ := Aside0.mk (Kd.R_below (by (with_reducible repeat (first | apply Kd.R_alloc | apply Kd.R_drewN | apply Kd.R_drew)); exact HO_6.out) hb); have n1_ := Aside0.mk (Kd.R_below (by (with_reducible repeat (first | apply Kd.R_alloc | apply Kd.R_drewN | apply Kd.R_drew)); exact HO399.out) hb); have n2_ := Aside0.mk (blk_below (g := gb387) (o := .cells #[.int .i64 a0_0, .int .i64 a0_1, .int .i64 a0_2] 23 (0, 0)) (by (with_reducible repeat (first | refine blk_drewN ?_ _ | refine blk_drew ?_ | refine blk_alloc ?_ _)); exact BK387.out) hb); have n3_ := Aside0.mk (blk_below (g := gb388) (o := .cells #[.int .i64 a1_0, .int .i64 a1_1] 45 (0, 0)) (by (with_reducible repeat (first | refine blk_drewN ?_ _ | refine blk_drew ?_ | refine blk_alloc ?_ _)); exact BK388.out) hb); have n4_ := Aside0.mk (below_step (by repeat (first | (with_reducible first | exact HB.out | apply below_alloc | apply pw_below_drewN | apply below_drew1 | refine below_set ?_ GE387.out | refine below_set ?_ GE388.out) | exact HB.out)) hb); clear HO_6; clear HO399; clear BK387; clear BK388; clear HB; have HO_6 := n0_; have HO399 := n1_; have BK387 := n2_; have BK388 := n3_; have HB := n4_; clear n0_ n1_ n2_ n3_ n4_; (try clear hb); (try clear hb2); (try clear hk); (try clear hi)) | ((with_reducible refine gate_dst (N := 9) rfl ?_); refine box_event ?hg (N := 9) ?hd (cs := #[.int .i64 0, .int .i64 0, .int .i64 0]) (t := 23) ?hr ?_; (case hd => rfl); (case hg => rfl); (case hr => first | (go_simp; done) | (go_simp; rfl)); intro gb406 hg w85 hbox hb; have n0_ := Aside0.mk (Kd.R_below (by (with_reducible repeat (first | apply Kd.R_alloc | apply Kd.R_drewN | apply Kd.R_drew)); exact HO_6.out) hb); have n1_ := Aside0.mk (Kd.R_below (by (with_reducible repeat (first | apply Kd.R_alloc | apply Kd.R_drewN | apply Kd.R_drew)); exact HO399.out) hb); have n2_ := Aside0.mk (blk_below (g := gb387) (o := .cells #[.int .i64 a0_0, .int .i64 a0_1, .int .i64 a0_2] 23 (0, 0)) (by (with_reducible repeat (first | refine blk_drewN ?_ _ | refine blk_drew ?_ | refine blk_alloc ?_ _)); exact BK387.out) hb); have n3_ := Aside0.mk (blk_below (g := gb388) (o := .cells #[.int .i64 a1_0, .int .i64 a1_1] 45 (0, 0)) (by (with_reducible repeat (first | refine blk_drewN ?_ _ | refine blk_drew ?_ | refine blk_alloc ?_ _)); exact BK388.out) hb); have n4_ := Aside0.mk (below_step (by repeat (first | (with_reducible first | exact HB.out | apply below_alloc | apply pw_below_drewN | apply below_drew1 | refine below_set ?_ GE387.out | refine below_set ?_ GE388.out) | exact HB.out)) hb); have n5_ := Aside0.mk (hbox); have n6_ := Aside0.mk ((by rw [hg]; exact (below_size (by repeat (first | (with_reducible first | exact HB.out | apply below_alloc | apply pw_below_drewN | apply below_drew1 | refine below_set ?_ GE387.out | refine below_set ?_ GE388.out) | exact HB.out))) : w.heap.size ≤ gb406)); have n7_ := Aside0.mk ((by rw [hg]; exact (below_size (by repeat (first | (with_reducible first | exact HB.out | apply below_alloc | apply pw_below_drewN | apply below_drew1 | refine below_set ?_ GE387.out | refine below_set ?_ GE388.out) | exact HB.out))) : w.heap.size ≤ gb406)); have n8_ := Aside0.mk ((by rw [hg]; exact Nat.ne_of_lt (blk_lt (g := gb387) (o := .cells #[.int .i64 a0_0, .int .i64 a0_1, .int .i64 a0_2] 23 (0, 0)) (by (with_reducible repeat (first | refine blk_drewN ?_ _ | refine blk_drew ?_ | refine blk_alloc ?_ _)); exact BK387.out)) : gb387 ≠ gb406)); have n9_ := Aside0.mk ((by rw [hg]; exact Nat.ne_of_gt (blk_lt (g := gb387) (o := .cells #[.int .i64 a0_0, .int .i64 a0_1, .int .i64 a0_2] 23 (0, 0)) (by (with_reducible repeat (first | refine blk_drewN ?_ _ | refine blk_drew ?_ | refine blk_alloc ?_ _)); exact BK387.out)) : gb406 ≠ gb387)); have n10_ := Aside0.mk ((by rw [hg]; exact Nat.ne_of_lt (blk_lt (g := gb388) (o := .cells #[.int .i64 a1_0, .int .i64 a1_1] 45 (0, 0)) (by (with_reducible repeat (first | refine blk_drewN ?_ _ | refine blk_drew ?_ | refine blk_alloc ?_ _)); exact BK388.out)) : gb388 ≠ gb406)); have n11_ := Aside0.mk ((by rw [hg]; exact Nat.ne_of_gt (blk_lt (g := gb388) (o := .cells #[.int .i64 a1_0, .int .i64 a1_1] 45 (0, 0)) (by (with_reducible repeat (first | refine blk_drewN ?_ _ | refine blk_drew ?_ | refine blk_alloc ?_ _)); exact BK388.out)) : gb406 ≠ gb388)); clear HO_6; clear HO399; clear BK387; clear BK388; clear HB; have HO_6 := n0_; have HO399 := n1_; have BK387 := n2_; have BK388 := n3_; have HB := n4_; have BK406 := n5_; have GW406 := n6_; have GE406 := n7_; have NB387_406 := n8_; have NB406_387 := n9_; have NB388_406 := n10_; have NB406_388 := n11_; clear n0_ n1_ n2_ n3_ n4_ n5_ n6_ n7_ n8_ n9_ n10_ n11_; clear hb hbox hg; have hnb86 := NB406_387.out; have hnc86 := NB387_406.out; have hnb87 := NB406_388.out; have hnc87 := NB388_406.out; have hcz88_0 : w85.cell? ⟨gb406, 0, none⟩ = some (.int .i64 0) := (blk_cell BK406.out 0).trans rfl; have hcz88_1 : w85.cell? ⟨gb406, 1, none⟩ = some (.int .i64 0) := (blk_cell BK406.out 1).trans rfl; have hcz88_2 : w85.cell? ⟨gb406, 2, none⟩ = some (.int .i64 0) := (blk_cell BK406.out 2).trans rfl; have hfz88_0 := blk_frozen BK406.out 0; have hfz88_1 := blk_frozen BK406.out 1; have hfz88_2 := blk_frozen BK406.out 2; have hnb89 := NB388_387.out; have hnc89 := NB387_388.out; have hcz90_0 : w85.cell? ⟨gb388, 0, none⟩ = some (.int .i64 a1_0) := (blk_cell BK388.out 0).trans rfl; have hcz90_1 : w85.cell? ⟨gb388, 1, none⟩ = some (.int .i64 a1_1) := (blk_cell BK388.out 1).trans rfl; have hfz90_0 := blk_frozen BK388.out 0; have hfz90_1 := blk_frozen BK388.out 1))
                          go_ret
                          exact ⟨by first | rfl | (simp [errW_none, errW_some] <;> rfl) | (simp only [← hji21]; first | rfl | (simp [errW_none, errW_some] <;> rfl)) | (simp [*, errW_none, errW_some] <;> rfl), by repeat (first | (with_reducible first | exact HB.out | apply below_alloc | apply pw_below_drewN | apply below_drew1 | refine below_set ?_ GE387.out | refine below_set ?_ GE388.out | refine below_set ?_ GE406.out) | exact HB.out)⟩
                      · rw [if_neg c58] at H
                        have c58b0 : (t402 == 0 && (t403 == 0 && (t404 == 0))) = false := by simpa using c58
                        (try (have c58b1 : decide (t402 = 0 && (t403 == 0 && (t404 == 0))) = false := by simpa using c58))
                        (try (have c58b2 : (t402 == 0 && (t403 == 0 && (t404 == 0))) = false := by simpa using c58))
                        (try (have c58b3 : ¬ (t402 = 0 && (t403 == 0 && (t404 == 0))) := by simpa using c58))
                        clear c58
                        obtain rfl := Option.some.inj H
                        obtain ⟨Ao91, co91, eo91⟩ := Kd.R_slice HO_6.out
                        subst eo91
                        try go_wp2_with (first | ((with_reducible refine gate_dst (N := 34) rfl ?_); refine Kd.R_lit (Kd.int .u8) _ 5 ?hg (N := 34) ?hd (xs := ([] : List Int)) (inner := []) (ok := fun _ => True) (okp := fun _ => True) ?hr ?hp (fun _ hk => hk) trivial (Below.refl _ _) (Nat.le_refl _) (by simp) ?_; (case hd => rfl); (case hg => rfl); (case hr => first | (go_simp; done) | (go_simp; rfl)); (case hp => exact (Reps.none _ _)); intro v395 w92 ho93 hb hg_ hnew_; clear hg_ hnew_; (first | rw [← Ny394.out] at ho93 | (simp only [Int.reduceToNat] at ho93; rw [← Ny394.out] at ho93)); have n0_ := Aside0.mk (Kd.R_elder' (by (with_reducible repeat (first | apply Kd.R_alloc | apply Kd.R_drewN | apply Kd.R_drew)); exact HO_6.out) (Kd.R_base ho93) hb); have n1_ := Aside0.mk (Kd.R_lower (Kd.R_new' ho93 (Kd.R_lt (by (with_reducible repeat (first | apply Kd.R_alloc | apply Kd.R_drewN | apply Kd.R_drew)); exact HO_6.out))) (below_size (by repeat (first | (with_reducible first | exact HB.out | apply below_alloc | apply pw_below_drewN | apply below_drew1 | refine below_set ?_ GE387.out | refine below_set ?_ GE388.out) | exact HB.out)))); have n2_ := Aside0.mk (blk_below (g := gb387) (o := .cells #[.int .i64 a0_0, .int .i64 a0_1, .int .i64 a0_2] 23 (0, 0)) (by (with_reducible repeat (first | refine blk_drewN ?_ _ | refine blk_drew ?_ | refine blk_alloc ?_ _)); exact BK387.out) hb); have n3_ := Aside0.mk (blk_below (g := gb388) (o := .cells #[.int .i64 a1_0, .int .i64 a1_1] 45 (0, 0)) (by (with_reducible repeat (first | refine blk_drewN ?_ _ | refine blk_drew ?_ | refine blk_alloc ?_ _)); exact BK388.out) hb); have n4_ := Aside0.mk (below_step (by repeat (first | (with_reducible first | exact HB.out | apply below_alloc | apply pw_below_drewN | apply below_drew1 | refine below_set ?_ GE387.out | refine below_set ?_ GE388.out) | exact HB.out)) hb); clear HO_6; clear BK387; clear BK388; clear HB; have HO_6 := n0_; have HO396 := n1_; have BK387 := n2_; have BK388 := n3_; have HB := n4_; clear n0_ n1_ n2_ n3_ n4_; clear hb ho93) | ((with_reducible refine gate_builtin (b := .append) (xs := #[.tmp 34, .tmp 35]) rfl ?_); at_builtin; refine Kd.R_append_rows (Kd.int .u8) (w0 := w) w.heap.size rfl (.tmp 34) (.tmp 35) 25 5 (.int .u8 0) 1 rfl Try.underlying25 info5 rfl (by decide) (by omega) v395 y394 t390 _ _ _ (fun k_ => some k_ ≠ (.slice Ao91 t390.length co91 : Value).ownBlock) (fun _ => False) rfl rfl ?aO ?aR (fun _ _ h => h) (fun _ h => h.elim) ?aF ?aB ?aS ?aL ?_; (case aR => repeat (first | exact (Kd.R_reads' HO_6.out).2.2 | (with_reducible refine Kd.C_alloc ?_ _) | (with_reducible refine Kd.C_drewN ?_ _) | (with_reducible refine Kd.C_drew ?_))); (case aB => exact (by repeat (first | (with_reducible first | exact HB.out | apply below_alloc | apply pw_below_drewN | apply below_drew1 | refine below_set ?_ GE387.out | refine below_set ?_ GE388.out) | exact HB.out))); (case aF => exact (fun k_ hk => Kd.fresh' (Kd.R_lt (by (with_reducible repeat (first | apply Kd.R_alloc | apply Kd.R_drewN | apply Kd.R_drew)); exact HO_6.out)) k_ hk)); (case aO => exact (by (with_reducible repeat (first | apply Kd.R_alloc | apply Kd.R_drewN | apply Kd.R_drew)); exact Kd.R_mono HO396.out (fun _ hk => hk.2))); (case aS => exact (below_size (by repeat (first | (with_reducible first | exact HB.out | apply below_alloc | apply pw_below_drewN | apply below_drew1 | refine below_set ?_ GE387.out | refine below_set ?_ GE388.out) | exact HB.out)))); (case aL => have := LMc20.out; omega); intro v398 w94 ho hb hg hat; rw [← Ny397.out] at ho; have n0_ := Aside0.mk (Kd.R_after (ok := (fun _ => True)) (by (with_reducible repeat (first | apply Kd.R_alloc | apply Kd.R_drewN | apply Kd.R_drew)); exact HO_6.out) hg hat); have n1_ := Aside0.mk (blk_grown (g := gb387) (o := .cells #[.int .i64 a0_0, .int .i64 a0_1, .int .i64 a0_2] 23 (0, 0)) (by (with_reducible repeat (first | refine blk_drewN ?_ _ | refine blk_drew ?_ | refine blk_alloc ?_ _)); exact BK387.out) hg (Kd.R_ne HO396.out BK387.out (by decide))); have n2_ := Aside0.mk (blk_grown (g := gb388) (o := .cells #[.int .i64 a1_0, .int .i64 a1_1] 45 (0, 0)) (by (with_reducible repeat (first | refine blk_drewN ?_ _ | refine blk_drew ?_ | refine blk_alloc ?_ _)); exact BK388.out) hg (Kd.R_ne HO396.out BK388.out (by decide))); have n3_ := Aside0.mk (hb); have n4_ := Aside0.mk (ho); clear HO_6; clear BK387; clear BK388; clear HB; clear HO396; have HO_6 := n0_; have BK387 := n1_; have BK388 := n2_; have HB := n3_; have HO399 := n4_; clear n0_ n1_ n2_ n3_ n4_; clear ho hb hg hat))
                        (try (rw [drewN_self w94]; generalize hq_ : World.drewN w94 _ = w94; have n0_ : Aside0 (Kd.R (Kd.int .u8) 5 w94 w.heap.size (fun k_ => some k_ ≠ (.slice Ao91 t390.length co91 : Value).ownBlock) v398 y397) := ⟨by rw [← hq_]; exact (by (with_reducible repeat (first | apply Kd.R_alloc | apply Kd.R_drewN | apply Kd.R_drew)); exact HO399.out)⟩; have n1_ : Aside0 (Kd.R (Kd.int .u8) 5 w94 w.heap.size (fun k_ => some k_ ≠ (v398 : Value).ownBlock) (.slice Ao91 t390.length co91) t390) := ⟨by rw [← hq_]; exact (by (with_reducible repeat (first | apply Kd.R_alloc | apply Kd.R_drewN | apply Kd.R_drew)); exact Kd.R_mono HO_6.out (fun _ hk => hk.2))⟩; have n2_ : Aside0 (w94.heap[gb387]? = some (.cells #[.int .i64 a0_0, .int .i64 a0_1, .int .i64 a0_2] 23 (0, 0))) := ⟨by rw [← hq_]; exact (by (with_reducible repeat (first | refine blk_drewN ?_ _ | refine blk_drew ?_ | refine blk_alloc ?_ _)); exact BK387.out)⟩; have n3_ : Aside0 (w94.heap[gb388]? = some (.cells #[.int .i64 a1_0, .int .i64 a1_1] 45 (0, 0))) := ⟨by rw [← hq_]; exact (by (with_reducible repeat (first | refine blk_drewN ?_ _ | refine blk_drew ?_ | refine blk_alloc ?_ _)); exact BK388.out)⟩; have n4_ : Aside0 (Below w.heap.size w w94) := ⟨by rw [← hq_]; exact (by repeat (first | (with_reducible first | exact HB.out | apply below_alloc | apply pw_below_drewN | apply below_drew1 | refine below_set ?_ GE387.out | refine below_set ?_ GE388.out) | exact HB.out))⟩; clear HO399 HO_6 BK387 BK388 HB hq_; have HO399 := n0_; have HO_6 := n1_; have BK387 := n2_; have BK388 := n3_; have HB := n4_; clear n0_ n1_ n2_ n3_ n4_))
                        have n0_ := Aside0.mk (Kd.R_drew HO_6.out)
                        have n1_ := Aside0.mk (Kd.R_drew HO399.out)
                        have n2_ := Aside0.mk (blk_drew BK387.out)
                        have n3_ := Aside0.mk (blk_drew BK388.out)
                        have n4_ := Aside0.mk (below_drew1 HB.out)
                        clear HO_6
                        clear HO399
                        clear BK387
                        clear BK388
                        clear HB
                        have HO_6 := n0_
                        have HO399 := n1_
                        have BK387 := n2_
                        have BK388 := n3_
                        have HB := n4_
                        clear n0_ n1_ n2_ n3_ n4_
                        obtain ⟨Ao96, co96, eo96⟩ := Kd.R_slice HO399.out
                        (first | subst eo96 | (injection eo96 with f1_ f2_ f3_; have f4_ := f1_.symm; have f5_ := f3_.symm; clear f1_ f2_ f3_; subst f4_; subst f5_))
                        have p400 : 0 ≤ ((ji21) : Int) := of_decide_eq_true (by first | (with_reducible assumption) | assumption)
                        have q400 : (ji21) < (y397.length : Int) := of_decide_eq_true (by first | (with_reducible assumption) | assumption)
                        obtain ⟨ad400, e400, hx400_0⟩ := Kd.at_int (Kd.R_reads' HO399.out).2.2 (ji21) p400 q400
                        cases e400
                        replace p400 := eq_true p400
                        replace q400 := eq_true q400
                        have p24 : 0 ≤ ((ji21) : Int) := of_decide_eq_true (by first | (with_reducible assumption) | assumption)
                        have q24 : ((ji21) : Int) < ((y397.length : Int) : Int) := of_decide_eq_true (by first | (with_reducible assumption) | assumption)
                        obtain ⟨go24, co24, eo24, gb24, gl24, cl24, HG24⟩ := Kd.R_form HO399.out (by omega)
                        (first | cases eo24 | (injection eo24 with ea_ en_ ec_; (first | subst ea_ | (injection ea_ with ea_; subst ea_)); subst ec_; clear en_))
                        have GB24 := Aside0.mk gb24
                        have GG24 := Aside0.mk HG24
                        clear gb24 gl24 HG24
                        (first | simp only [add_plain] at hx400_0 | skip)
                        obtain ⟨hx24_0, hf24_0⟩ := Kd.R_celln 0 HO399.out ((ji21) : Int) p24 q24
                        replace p24 := eq_true p24
                        replace q24 := eq_true q24
                        have HP97 := Kd.R_putn HO399.out ((ji21) : Int) (Go.bits .xor .u8 (rd y397 (ji21)) ((a1_1) % 256))
                        rw [← Ny401.out] at HP97
                        have HQ97 := Aside0.mk HP97
                        clear HP97
                        refine start_ (n := 16) (S := fun w' => w'.cell? ⟨gb388, 0, none⟩ = some (.int .i64 a1_0) ∧ w'.cell? ⟨gb388, 1, none⟩ = some (.int .i64 a1_1) ∧ w'.cell? ⟨go24, ((ji21)).toNat, none⟩ = some (.int .u8 (rd y397 (ji21)))) (ds := [15]) #[false, false, false, false, false, false, false, false, false, false, false, false, false, false, false, false] (by kernel_rfl) rfl rfl ⟨(blk_cell BK388.out 0).trans rfl, (blk_cell BK388.out 1).trans rfl, hx400_0⟩ (fun hHeld => ?_); refine with_tabW strakelaw06_MarkTurned.tab8 strakelaw06_MarkTurned.bits8 (fun HT_ HW_ => ?_)
                        generalize w94.drew = w95 at HO_6 HO399 BK387 BK388 HB GG24 HQ97 hf24_0 hx24_0 hx400_0 hHeld ⊢
                        refine pure_ (i := 0) (N := some 37) (v := ?_) (a' := ?_) #[true, false, false, false, false, false, false, false, false, false, false, false, false, false, false, false] rfl rfl (any_of HT_.out (by kernel_rfl)) (fun _ _ _ h => h) (Or.inl ⟨by rfl, ?_⟩) ?_ ?_
                        rotate_left
                        · intro w'
                          go_simp
                          with_reducible rfl
                        rotate_left
                        · simp only [Act.put, List.setIfInBounds_toArray, List.set_cons_zero, List.set_cons_succ, i64_w, i32_w]
                          rfl
                        refine pure_ (i := 1) (N := some 38) (v := ?_) (a' := ?_) #[true, true, false, false, false, false, false, false, false, false, false, false, false, false, false, false] rfl rfl (any_of HT_.out (by kernel_rfl)) (fun _ _ _ h => h) (Or.inl ⟨by rfl, ?_⟩) ?_ ?_
                        rotate_left
                        · intro w'
                          go_simp
                          with_reducible rfl
                        rotate_left
                        · simp only [Act.put, List.setIfInBounds_toArray, List.set_cons_zero, List.set_cons_succ, i64_w, i32_w]
                          rfl
                        refine pure_ (i := 4) (N := some 41) (v := ?_) (a' := ?_) #[true, true, false, false, true, false, false, false, false, false, false, false, false, false, false, false] rfl rfl (any_of HT_.out (by kernel_rfl)) (fun _ _ _ h => h) (Or.inl ⟨by rfl, ?_⟩) ?_ ?_
                        rotate_left
                        · intro w'
                          go_simp
                          with_reducible rfl
                        rotate_left
                        · simp only [Act.put, List.setIfInBounds_toArray, List.set_cons_zero, List.set_cons_succ, i64_w, i32_w]
                          rfl
                        refine pure_ (i := 5) (N := some 42) (v := ?_) (a' := ?_) #[true, true, false, false, true, true, false, false, false, false, false, false, false, false, false, false] rfl rfl (any_of HT_.out (by kernel_rfl)) (fun _ _ _ h => h) (Or.inl ⟨by rfl, ?_⟩) ?_ ?_
                        rotate_left
                        · intro w'
                          go_simp
                          with_reducible rfl
                        rotate_left
                        · simp only [Act.put, List.setIfInBounds_toArray, List.set_cons_zero, List.set_cons_succ, i64_w, i32_w]
                          rfl
                        refine pure_ (i := 10) (N := some 47) (v := ?_) (a' := ?_) #[true, true, false, false, true, true, false, false, false, false, true, false, false, false, false, false] rfl rfl (any_of HT_.out (by kernel_rfl)) (fun _ _ _ h => h) (Or.inl ⟨by rfl, ?_⟩) ?_ ?_
                        rotate_left
                        · intro w'
                          go_simp
                          with_reducible rfl
                        rotate_left
                        · simp only [Act.put, List.setIfInBounds_toArray, List.set_cons_zero, List.set_cons_succ, i64_w, i32_w]
                          rfl
                        refine take_ (i := 2) (N := some 39) (v := ?_) (a' := ?_) #[true, true, true, false, true, true, false, false, false, false, true, false, false, false, false, false] rfl rfl (take_ofW HT_.out HW_.out (by kernel_rfl)) (fun _ _ _ h => h) (Or.inl ⟨by rfl, ?_⟩) hHeld ?_ ?_
                        rotate_left
                        · rintro w' ⟨s0, s1, s2⟩
                          go_simp
                          with_reducible rfl
                        rotate_left
                        · simp only [Act.put, List.setIfInBounds_toArray, List.set_cons_zero, List.set_cons_succ, i64_w, i32_w]
                          rfl
                        refine pure_ (i := 3) (N := some 40) (v := ?_) (a' := ?_) #[true, true, true, true, true, true, false, false, false, false, true, false, false, false, false, false] rfl rfl (any_of HT_.out (by kernel_rfl)) (fun _ _ _ h => h) (Or.inl ⟨by rfl, ?_⟩) ?_ ?_
                        rotate_left
                        · intro w'
                          go_simp
                          with_reducible rfl
                        rotate_left
                        · simp only [Act.put, List.setIfInBounds_toArray, List.set_cons_zero, List.set_cons_succ, i64_w, i32_w]
                          rfl
                        refine take_ (i := 6) (N := some 43) (v := ?_) (a' := ?_) #[true, true, true, true, true, true, true, false, false, false, true, false, false, false, false, false] rfl rfl (take_ofW HT_.out HW_.out (by kernel_rfl)) (fun _ _ _ h => h) (Or.inl ⟨by rfl, ?_⟩) hHeld ?_ ?_
                        rotate_left
                        · rintro w' ⟨s0, s1, s2⟩
                          go_simp
                          with_reducible rfl
                        rotate_left
                        · simp only [Act.put, List.setIfInBounds_toArray, List.set_cons_zero, List.set_cons_succ, i64_w, i32_w]
                          rfl
                        refine pure_ (i := 7) (N := some 44) (v := ?_) (a' := ?_) #[true, true, true, true, true, true, true, true, false, false, true, false, false, false, false, false] rfl rfl (any_of HT_.out (by kernel_rfl)) (fun _ _ _ h => h) (Or.inl ⟨by rfl, ?_⟩) ?_ ?_
                        rotate_left
                        · intro w'
                          go_simp
                          with_reducible rfl
                        rotate_left
                        · simp only [Act.put, List.setIfInBounds_toArray, List.set_cons_zero, List.set_cons_succ, i64_w, i32_w]
                          rfl
                        refine pure_ (i := 8) (N := some 45) (v := ?_) (a' := ?_) #[true, true, true, true, true, true, true, true, true, false, true, false, false, false, false, false] rfl rfl (any_of HT_.out (by kernel_rfl)) (fun _ _ _ h => h) (Or.inl ⟨by rfl, ?_⟩) ?_ ?_
                        rotate_left
                        · intro w'
                          go_simp
                          with_reducible rfl
                        rotate_left
                        · simp only [Act.put, List.setIfInBounds_toArray, List.set_cons_zero, List.set_cons_succ, i64_w, i32_w]
                          rfl
                        refine take_ (i := 9) (N := some 46) (v := ?_) (a' := ?_) #[true, true, true, true, true, true, true, true, true, true, true, false, false, false, false, false] rfl rfl (take_ofW HT_.out HW_.out (by kernel_rfl)) (fun _ _ _ h => h) (Or.inl ⟨by rfl, ?_⟩) hHeld ?_ ?_
                        rotate_left
                        · rintro w' ⟨s0, s1, s2⟩
                          go_simp
                          with_reducible rfl
                        rotate_left
                        · simp only [Act.put, List.setIfInBounds_toArray, List.set_cons_zero, List.set_cons_succ, i64_w, i32_w]
                          rfl
                        refine take_ (i := 11) (N := some 48) (v := ?_) (a' := ?_) #[true, true, true, true, true, true, true, true, true, true, true, true, false, false, false, false] rfl rfl (take_ofW HT_.out HW_.out (by kernel_rfl)) (fun _ _ _ h => h) (Or.inl ⟨by rfl, ?_⟩) hHeld ?_ ?_
                        rotate_left
                        · rintro w' ⟨s0, s1, s2⟩
                          go_simp
                          with_reducible rfl
                        rotate_left
                        · simp only [Act.put, List.setIfInBounds_toArray, List.set_cons_zero, List.set_cons_succ, i64_w, i32_w]
                          rfl
                        refine pure_ (i := 12) (N := some 49) (v := ?_) (a' := ?_) #[true, true, true, true, true, true, true, true, true, true, true, true, true, false, false, false] rfl rfl (any_of HT_.out (by kernel_rfl)) (fun _ _ _ h => h) (Or.inl ⟨by rfl, ?_⟩) ?_ ?_
                        rotate_left
                        · intro w'
                          go_simp
                          with_reducible rfl
                        rotate_left
                        · simp only [Act.put, List.setIfInBounds_toArray, List.set_cons_zero, List.set_cons_succ, i64_w, i32_w]
                          rfl
                        refine pure_ (i := 13) (N := some 50) (v := ?_) (a' := ?_) #[true, true, true, true, true, true, true, true, true, true, true, true, true, true, false, false] rfl rfl (any_of HT_.out (by kernel_rfl)) (fun _ _ _ h => h) (Or.inl ⟨by rfl, ?_⟩) ?_ ?_
                        rotate_left
                        · intro w'
                          go_simp
                          with_reducible rfl
                        rotate_left
                        · simp only [Act.put, List.setIfInBounds_toArray, List.set_cons_zero, List.set_cons_succ, i64_w, i32_w]
                          rfl
                        refine pure_ (i := 14) (N := some 51) (v := ?_) (a' := ?_) #[true, true, true, true, true, true, true, true, true, true, true, true, true, true, true, false] rfl rfl (any_of HT_.out (by kernel_rfl)) (fun _ _ _ h => h) (Or.inl ⟨by rfl, ?_⟩) ?_ ?_
                        rotate_left
                        · intro w'
                          go_simp
                          with_reducible rfl
                        rotate_left
                        · simp only [Act.put, List.setIfInBounds_toArray, List.set_cons_zero, List.set_cons_succ, i64_w, i32_w]
                          rfl
                        refine last_ (i := 15) (N := none) #[true, true, true, true, true, true, true, true, true, true, true, true, true, true, true, true] rfl rfl (one_of HT_.out (by kernel_rfl)) (by decide) (fun K hK => ?_)
                        refine skip_ (w1 := ?_) (by rfl) rfl ?_ ?_
                        rotate_left
                        · go_simp
                          rfl
                        refine hK.out _ _ ?_
                        clear hK K
                        refine done_ (done_of HT_.out (by kernel_rfl)) ?_
                        have n0_ : Aside0 (Kd.R (Kd.int .u8) 5 (w95.setCell ⟨go24, ((ji21) : Int).toNat, none⟩ (.int .u8 (Go.bits .xor .u8 (rd y397 (ji21)) ((a1_1) % 256)))) w.heap.size (fun k_ => some k_ ≠ (.slice (some ⟨go24, 0, none⟩) y397.length co96 : Value).ownBlock) (.slice Ao91 t390.length co91) t390) := ⟨by (with_reducible repeat (first | apply Kd.R_alloc | apply Kd.R_drewN | apply Kd.R_drew)); exact Kd.R_mono (Kd.R_far (p := ⟨go24, ((ji21) : Int).toNat, none⟩) (Kd.R_mono HO_6.out (fun k_ hk => (⟨hk, fun e_ => hk.2 (by rw [e_]; rfl)⟩ : _ ∧ k_ ≠ go24))) (fun _ hk => hk.2) (.int .u8 (Go.bits .xor .u8 (rd y397 (ji21)) ((a1_1) % 256)))) (fun _ hk => hk.1.2)⟩
                        have n1_ : Aside0 (Kd.R (Kd.int .u8) 5 (w95.setCell ⟨go24, ((ji21) : Int).toNat, none⟩ (.int .u8 (Go.bits .xor .u8 (rd y397 (ji21)) ((a1_1) % 256)))) w.heap.size (fun k_ => some k_ ≠ (.slice Ao91 t390.length co91 : Value).ownBlock) (.slice (some ⟨go24, 0, none⟩) y397.length co96) y401) := ⟨by (with_reducible repeat (first | apply Kd.R_alloc | apply Kd.R_drewN | apply Kd.R_drew)); exact HQ97.out⟩
                        have n2_ : Aside0 ((w95.setCell ⟨go24, ((ji21) : Int).toNat, none⟩ (.int .u8 (Go.bits .xor .u8 (rd y397 (ji21)) ((a1_1) % 256)))).heap[gb387]? = some (.cells #[.int .i64 a0_0, .int .i64 a0_1, .int .i64 a0_2] 23 (0, 0))) := ⟨by (with_reducible repeat (first | refine blk_drewN ?_ _ | refine blk_drew ?_ | refine blk_alloc ?_ _)); refine blk_far ?_ (by have h_ := Kd.R_ne HO399.out BK387.out (by decide); intro e_; exact h_ (by rw [e_]; rfl)) _; (with_reducible repeat (first | refine blk_drewN ?_ _ | refine blk_drew ?_ | refine blk_alloc ?_ _)); exact BK387.out⟩
                        have n3_ : Aside0 ((w95.setCell ⟨go24, ((ji21) : Int).toNat, none⟩ (.int .u8 (Go.bits .xor .u8 (rd y397 (ji21)) ((a1_1) % 256)))).heap[gb388]? = some (.cells #[.int .i64 a1_0, .int .i64 a1_1] 45 (0, 0))) := ⟨by (with_reducible repeat (first | refine blk_drewN ?_ _ | refine blk_drew ?_ | refine blk_alloc ?_ _)); refine blk_far ?_ (by have h_ := Kd.R_ne HO399.out BK388.out (by decide); intro e_; exact h_ (by rw [e_]; rfl)) _; (with_reducible repeat (first | refine blk_drewN ?_ _ | refine blk_drew ?_ | refine blk_alloc ?_ _)); exact BK388.out⟩
                        have n4_ : Aside0 (Below w.heap.size w (w95.setCell ⟨go24, ((ji21) : Int).toNat, none⟩ (.int .u8 (Go.bits .xor .u8 (rd y397 (ji21)) ((a1_1) % 256))))) := ⟨by repeat (first | (with_reducible first | exact HB.out | apply below_alloc | apply pw_below_drewN | apply below_drew1 | refine below_set ?_ GB24.out | refine below_set ?_ GE387.out | refine below_set ?_ GE388.out) | exact HB.out)⟩
                        (try clear HO_6)
                        (try clear HO399)
                        (try clear BK387)
                        (try clear BK388)
                        (try clear HB)
                        (try simp only [IntKind.wrap_u8, IntKind.wrap_u32])
                        generalize (w95.setCell ⟨go24, ((ji21) : Int).toNat, none⟩ (.int .u8 (Go.bits .xor .u8 (rd y397 (ji21)) ((a1_1) % 256)))) = w98 at n0_ n1_ n2_ n3_ n4_ ⊢
                        have HO_6 := n0_
                        have HO399 := n1_
                        have BK387 := n2_
                        have BK388 := n3_
                        have HB := n4_
                        clear n0_ n1_ n2_ n3_ n4_
                        try go_wp2_with (first | ((with_reducible refine gate_callee (f := 28) rfl ?_); refine goesL_ (some 54) rfl rfl Try.func28 (by kernel_rfl) rfl #[.slice (some ⟨go24, 0, none⟩) y401.length co96] rfl (by (try simp only [List.map_toArray, List.map_cons, List.map_nil]); first | done | (rw [show y401.length = y397.length from (Kd.R_reads' HO399.out).1.symm] <;> rfl) | rfl | (simp only [List.length_drop, List.length_take]; rfl)) ?_; (with_reducible refine (mark_Read.calls kj4 _ _ y401 t402 t403 t404 t405 _ ?side1 ?side2 A25.out).mono ?_); (case side1 => repeat (first | exact (Kd.R_reads' HO399.out).2.2 | (with_reducible refine Kd.C_alloc ?_ _) | (with_reducible refine Kd.C_drewN ?_ _) | (with_reducible refine Kd.C_drew ?_))); (case side2 => rw [show y401.length = y397.length from (Kd.R_reads' HO399.out).1.symm]; exact (Kd.R_reads' HO399.out).2.1); rintro e w99 ⟨rfl, hb⟩; refine ⟨_, rfl, ?_⟩; have n0_ := Aside0.mk (Kd.R_below (by (with_reducible repeat (first | apply Kd.R_alloc | apply Kd.R_drewN | apply Kd.R_drew)); exact HO_6.out) hb); have n1_ := Aside0.mk (Kd.R_below (by (with_reducible repeat (first | apply Kd.R_alloc | apply Kd.R_drewN | apply Kd.R_drew)); exact HO399.out) hb); have n2_ := Aside0.mk (blk_below (g := gb387) (o := .cells #[.int .i64 a0_0, .int .i64 a0_1, .int .i64 a0_2] 23 (0, 0)) (by (with_reducible repeat (first | refine blk_drewN ?_ _ | refine blk_drew ?_ | refine blk_alloc ?_ _)); exact BK387.out) hb); have n3_ := Aside0.mk (blk_below (g := gb388) (o := .cells #[.int .i64 a1_0, .int .i64 a1_1] 45 (0, 0)) (by (with_reducible repeat (first | refine blk_drewN ?_ _ | refine blk_drew ?_ | refine blk_alloc ?_ _)); exact BK388.out) hb); have n4_ := Aside0.mk (below_step (by repeat (first | (with_reducible first | exact HB.out | apply below_alloc | apply pw_below_drewN | apply below_drew1 | refine below_set ?_ GE387.out | refine below_set ?_ GE388.out) | exact HB.out)) hb); clear HO_6; clear HO399; clear BK387; clear BK388; clear HB; have HO_6 := n0_; have HO399 := n1_; have BK387 := n2_; have BK388 := n3_; have HB := n4_; clear n0_ n1_ n2_ n3_ n4_; (try clear hb); (try clear hb2); (try clear hk); (try clear hi)) | ((with_reducible refine gate_dst (N := 9) rfl ?_); refine box_event ?hg (N := 9) ?hd (cs := #[.int .i64 0, .int .i64 0, .int .i64 0]) (t := 23) ?hr ?_; (case hd => rfl); (case hg => rfl); (case hr => first | (go_simp; done) | (go_simp; rfl)); intro gb406 hg w100 hbox hb; have n0_ := Aside0.mk (Kd.R_below (by (with_reducible repeat (first | apply Kd.R_alloc | apply Kd.R_drewN | apply Kd.R_drew)); exact HO_6.out) hb); have n1_ := Aside0.mk (Kd.R_below (by (with_reducible repeat (first | apply Kd.R_alloc | apply Kd.R_drewN | apply Kd.R_drew)); exact HO399.out) hb); have n2_ := Aside0.mk (blk_below (g := gb387) (o := .cells #[.int .i64 a0_0, .int .i64 a0_1, .int .i64 a0_2] 23 (0, 0)) (by (with_reducible repeat (first | refine blk_drewN ?_ _ | refine blk_drew ?_ | refine blk_alloc ?_ _)); exact BK387.out) hb); have n3_ := Aside0.mk (blk_below (g := gb388) (o := .cells #[.int .i64 a1_0, .int .i64 a1_1] 45 (0, 0)) (by (with_reducible repeat (first | refine blk_drewN ?_ _ | refine blk_drew ?_ | refine blk_alloc ?_ _)); exact BK388.out) hb); have n4_ := Aside0.mk (below_step (by repeat (first | (with_reducible first | exact HB.out | apply below_alloc | apply pw_below_drewN | apply below_drew1 | refine below_set ?_ GE387.out | refine below_set ?_ GE388.out) | exact HB.out)) hb); have n5_ := Aside0.mk (hbox); have n6_ := Aside0.mk ((by rw [hg]; exact (below_size (by repeat (first | (with_reducible first | exact HB.out | apply below_alloc | apply pw_below_drewN | apply below_drew1 | refine below_set ?_ GE387.out | refine below_set ?_ GE388.out) | exact HB.out))) : w.heap.size ≤ gb406)); have n7_ := Aside0.mk ((by rw [hg]; exact (below_size (by repeat (first | (with_reducible first | exact HB.out | apply below_alloc | apply pw_below_drewN | apply below_drew1 | refine below_set ?_ GE387.out | refine below_set ?_ GE388.out) | exact HB.out))) : w.heap.size ≤ gb406)); have n8_ := Aside0.mk ((by rw [hg]; exact Nat.ne_of_lt (blk_lt (g := gb387) (o := .cells #[.int .i64 a0_0, .int .i64 a0_1, .int .i64 a0_2] 23 (0, 0)) (by (with_reducible repeat (first | refine blk_drewN ?_ _ | refine blk_drew ?_ | refine blk_alloc ?_ _)); exact BK387.out)) : gb387 ≠ gb406)); have n9_ := Aside0.mk ((by rw [hg]; exact Nat.ne_of_gt (blk_lt (g := gb387) (o := .cells #[.int .i64 a0_0, .int .i64 a0_1, .int .i64 a0_2] 23 (0, 0)) (by (with_reducible repeat (first | refine blk_drewN ?_ _ | refine blk_drew ?_ | refine blk_alloc ?_ _)); exact BK387.out)) : gb406 ≠ gb387)); have n10_ := Aside0.mk ((by rw [hg]; exact Nat.ne_of_lt (blk_lt (g := gb388) (o := .cells #[.int .i64 a1_0, .int .i64 a1_1] 45 (0, 0)) (by (with_reducible repeat (first | refine blk_drewN ?_ _ | refine blk_drew ?_ | refine blk_alloc ?_ _)); exact BK388.out)) : gb388 ≠ gb406)); have n11_ := Aside0.mk ((by rw [hg]; exact Nat.ne_of_gt (blk_lt (g := gb388) (o := .cells #[.int .i64 a1_0, .int .i64 a1_1] 45 (0, 0)) (by (with_reducible repeat (first | refine blk_drewN ?_ _ | refine blk_drew ?_ | refine blk_alloc ?_ _)); exact BK388.out)) : gb406 ≠ gb388)); clear HO_6; clear HO399; clear BK387; clear BK388; clear HB; have HO_6 := n0_; have HO399 := n1_; have BK387 := n2_; have BK388 := n3_; have HB := n4_; have BK406 := n5_; have GW406 := n6_; have GE406 := n7_; have NB387_406 := n8_; have NB406_387 := n9_; have NB388_406 := n10_; have NB406_388 := n11_; clear n0_ n1_ n2_ n3_ n4_ n5_ n6_ n7_ n8_ n9_ n10_ n11_; clear hb hbox hg; have hnb101 := NB406_387.out; have hnc101 := NB387_406.out; have hnb102 := NB406_388.out; have hnc102 := NB388_406.out; have hcz103_0 : w100.cell? ⟨gb406, 0, none⟩ = some (.int .i64 0) := (blk_cell BK406.out 0).trans rfl; have hcz103_1 : w100.cell? ⟨gb406, 1, none⟩ = some (.int .i64 0) := (blk_cell BK406.out 1).trans rfl; have hcz103_2 : w100.cell? ⟨gb406, 2, none⟩ = some (.int .i64 0) := (blk_cell BK406.out 2).trans rfl; have hfz103_0 := blk_frozen BK406.out 0; have hfz103_1 := blk_frozen BK406.out 1; have hfz103_2 := blk_frozen BK406.out 2))
                        go_ret
                        exact ⟨by first | rfl | (simp [errW_none, errW_some] <;> rfl) | (simp only [← hji21]; first | rfl | (simp [errW_none, errW_some] <;> rfl)) | (simp [*, errW_none, errW_some] <;> rfl), by repeat (first | (with_reducible first | exact HB.out | apply below_alloc | apply pw_below_drewN | apply below_drew1 | refine below_set ?_ GE387.out | refine below_set ?_ GE388.out | refine below_set ?_ GE406.out) | exact HB.out)⟩
                    · rw [if_neg c57] at H
                      have c57b0 : (t405 == 3) = false := beq_eq_false_iff_ne.mpr c57
                      have c57b1 : (t405 != 3) = true := bne_iff_ne.mpr c57
                      obtain rfl := Option.some.inj H
                      obtain ⟨Ao104, co104, eo104⟩ := Kd.R_slice HO_6.out
                      subst eo104
                      try go_wp2_with (first | ((with_reducible refine gate_dst (N := 34) rfl ?_); refine Kd.R_lit (Kd.int .u8) _ 5 ?hg (N := 34) ?hd (xs := ([] : List Int)) (inner := []) (ok := fun _ => True) (okp := fun _ => True) ?hr ?hp (fun _ hk => hk) trivial (Below.refl _ _) (Nat.le_refl _) (by simp) ?_; (case hd => rfl); (case hg => rfl); (case hr => first | (go_simp; done) | (go_simp; rfl)); (case hp => exact (Reps.none _ _)); intro v395 w105 ho106 hb hg_ hnew_; clear hg_ hnew_; (first | rw [← Ny394.out] at ho106 | (simp only [Int.reduceToNat] at ho106; rw [← Ny394.out] at ho106)); have n0_ := Aside0.mk (Kd.R_elder' (by (with_reducible repeat (first | apply Kd.R_alloc | apply Kd.R_drewN | apply Kd.R_drew)); exact HO_6.out) (Kd.R_base ho106) hb); have n1_ := Aside0.mk (Kd.R_lower (Kd.R_new' ho106 (Kd.R_lt (by (with_reducible repeat (first | apply Kd.R_alloc | apply Kd.R_drewN | apply Kd.R_drew)); exact HO_6.out))) (below_size (by repeat (first | (with_reducible first | exact HB.out | apply below_alloc | apply pw_below_drewN | apply below_drew1 | refine below_set ?_ GE387.out | refine below_set ?_ GE388.out) | exact HB.out)))); have n2_ := Aside0.mk (blk_below (g := gb387) (o := .cells #[.int .i64 a0_0, .int .i64 a0_1, .int .i64 a0_2] 23 (0, 0)) (by (with_reducible repeat (first | refine blk_drewN ?_ _ | refine blk_drew ?_ | refine blk_alloc ?_ _)); exact BK387.out) hb); have n3_ := Aside0.mk (blk_below (g := gb388) (o := .cells #[.int .i64 a1_0, .int .i64 a1_1] 45 (0, 0)) (by (with_reducible repeat (first | refine blk_drewN ?_ _ | refine blk_drew ?_ | refine blk_alloc ?_ _)); exact BK388.out) hb); have n4_ := Aside0.mk (below_step (by repeat (first | (with_reducible first | exact HB.out | apply below_alloc | apply pw_below_drewN | apply below_drew1 | refine below_set ?_ GE387.out | refine below_set ?_ GE388.out) | exact HB.out)) hb); clear HO_6; clear BK387; clear BK388; clear HB; have HO_6 := n0_; have HO396 := n1_; have BK387 := n2_; have BK388 := n3_; have HB := n4_; clear n0_ n1_ n2_ n3_ n4_; clear hb ho106) | ((with_reducible refine gate_builtin (b := .append) (xs := #[.tmp 34, .tmp 35]) rfl ?_); at_builtin; refine Kd.R_append_rows (Kd.int .u8) (w0 := w) w.heap.size rfl (.tmp 34) (.tmp 35) 25 5 (.int .u8 0) 1 rfl Try.underlying25 info5 rfl (by decide) (by omega) v395 y394 t390 _ _ _ (fun k_ => some k_ ≠ (.slice Ao104 t390.length co104 : Value).ownBlock) (fun _ => False) rfl rfl ?aO ?aR (fun _ _ h => h) (fun _ h => h.elim) ?aF ?aB ?aS ?aL ?_; (case aR => repeat (first | exact (Kd.R_reads' HO_6.out).2.2 | (with_reducible refine Kd.C_alloc ?_ _) | (with_reducible refine Kd.C_drewN ?_ _) | (with_reducible refine Kd.C_drew ?_))); (case aB => exact (by repeat (first | (with_reducible first | exact HB.out | apply below_alloc | apply pw_below_drewN | apply below_drew1 | refine below_set ?_ GE387.out | refine below_set ?_ GE388.out) | exact HB.out))); (case aF => exact (fun k_ hk => Kd.fresh' (Kd.R_lt (by (with_reducible repeat (first | apply Kd.R_alloc | apply Kd.R_drewN | apply Kd.R_drew)); exact HO_6.out)) k_ hk)); (case aO => exact (by (with_reducible repeat (first | apply Kd.R_alloc | apply Kd.R_drewN | apply Kd.R_drew)); exact Kd.R_mono HO396.out (fun _ hk => hk.2))); (case aS => exact (below_size (by repeat (first | (with_reducible first | exact HB.out | apply below_alloc | apply pw_below_drewN | apply below_drew1 | refine below_set ?_ GE387.out | refine below_set ?_ GE388.out) | exact HB.out)))); (case aL => have := LMc20.out; omega); intro v398 w107 ho hb hg hat; rw [← Ny397.out] at ho; have n0_ := Aside0.mk (Kd.R_after (ok := (fun _ => True)) (by (with_reducible repeat (first | apply Kd.R_alloc | apply Kd.R_drewN | apply Kd.R_drew)); exact HO_6.out) hg hat); have n1_ := Aside0.mk (blk_grown (g := gb387) (o := .cells #[.int .i64 a0_0, .int .i64 a0_1, .int .i64 a0_2] 23 (0, 0)) (by (with_reducible repeat (first | refine blk_drewN ?_ _ | refine blk_drew ?_ | refine blk_alloc ?_ _)); exact BK387.out) hg (Kd.R_ne HO396.out BK387.out (by decide))); have n2_ := Aside0.mk (blk_grown (g := gb388) (o := .cells #[.int .i64 a1_0, .int .i64 a1_1] 45 (0, 0)) (by (with_reducible repeat (first | refine blk_drewN ?_ _ | refine blk_drew ?_ | refine blk_alloc ?_ _)); exact BK388.out) hg (Kd.R_ne HO396.out BK388.out (by decide))); have n3_ := Aside0.mk (hb); have n4_ := Aside0.mk (ho); clear HO_6; clear BK387; clear BK388; clear HB; clear HO396; have HO_6 := n0_; have BK387 := n1_; have BK388 := n2_; have HB := n3_; have HO399 := n4_; clear n0_ n1_ n2_ n3_ n4_; clear ho hb hg hat))
                      (try (rw [drewN_self w107]; generalize hq_ : World.drewN w107 _ = w107; have n0_ : Aside0 (Kd.R (Kd.int .u8) 5 w107 w.heap.size (fun k_ => some k_ ≠ (.slice Ao104 t390.length co104 : Value).ownBlock) v398 y397) := ⟨by rw [← hq_]; exact (by (with_reducible repeat (first | apply Kd.R_alloc | apply Kd.R_drewN | apply Kd.R_drew)); exact HO399.out)⟩; have n1_ : Aside0 (Kd.R (Kd.int .u8) 5 w107 w.heap.size (fun k_ => some k_ ≠ (v398 : Value).ownBlock) (.slice Ao104 t390.length co104) t390) := ⟨by rw [← hq_]; exact (by (with_reducible repeat (first | apply Kd.R_alloc | apply Kd.R_drewN | apply Kd.R_drew)); exact Kd.R_mono HO_6.out (fun _ hk => hk.2))⟩; have n2_ : Aside0 (w107.heap[gb387]? = some (.cells #[.int .i64 a0_0, .int .i64 a0_1, .int .i64 a0_2] 23 (0, 0))) := ⟨by rw [← hq_]; exact (by (with_reducible repeat (first | refine blk_drewN ?_ _ | refine blk_drew ?_ | refine blk_alloc ?_ _)); exact BK387.out)⟩; have n3_ : Aside0 (w107.heap[gb388]? = some (.cells #[.int .i64 a1_0, .int .i64 a1_1] 45 (0, 0))) := ⟨by rw [← hq_]; exact (by (with_reducible repeat (first | refine blk_drewN ?_ _ | refine blk_drew ?_ | refine blk_alloc ?_ _)); exact BK388.out)⟩; have n4_ : Aside0 (Below w.heap.size w w107) := ⟨by rw [← hq_]; exact (by repeat (first | (with_reducible first | exact HB.out | apply below_alloc | apply pw_below_drewN | apply below_drew1 | refine below_set ?_ GE387.out | refine below_set ?_ GE388.out) | exact HB.out))⟩; clear HO399 HO_6 BK387 BK388 HB hq_; have HO399 := n0_; have HO_6 := n1_; have BK387 := n2_; have BK388 := n3_; have HB := n4_; clear n0_ n1_ n2_ n3_ n4_))
                      have n0_ := Aside0.mk (Kd.R_drew HO_6.out)
                      have n1_ := Aside0.mk (Kd.R_drew HO399.out)
                      have n2_ := Aside0.mk (blk_drew BK387.out)
                      have n3_ := Aside0.mk (blk_drew BK388.out)
                      have n4_ := Aside0.mk (below_drew1 HB.out)
                      clear HO_6
                      clear HO399
                      clear BK387
                      clear BK388
                      clear HB
                      have HO_6 := n0_
                      have HO399 := n1_
                      have BK387 := n2_
                      have BK388 := n3_
                      have HB := n4_
                      clear n0_ n1_ n2_ n3_ n4_
                      obtain ⟨Ao109, co109, eo109⟩ := Kd.R_slice HO399.out
                      (first | subst eo109 | (injection eo109 with f1_ f2_ f3_; have f4_ := f1_.symm; have f5_ := f3_.symm; clear f1_ f2_ f3_; subst f4_; subst f5_))
                      have p400 : 0 ≤ ((ji21) : Int) := of_decide_eq_true (by first | (with_reducible assumption) | assumption)
                      have q400 : (ji21) < (y397.length : Int) := of_decide_eq_true (by first | (with_reducible assumption) | assumption)
                      obtain ⟨ad400, e400, hx400_0⟩ := Kd.at_int (Kd.R_reads' HO399.out).2.2 (ji21) p400 q400
                      cases e400
                      replace p400 := eq_true p400
                      replace q400 := eq_true q400
                      have p24 : 0 ≤ ((ji21) : Int) := of_decide_eq_true (by first | (with_reducible assumption) | assumption)
                      have q24 : ((ji21) : Int) < ((y397.length : Int) : Int) := of_decide_eq_true (by first | (with_reducible assumption) | assumption)
                      obtain ⟨go24, co24, eo24, gb24, gl24, cl24, HG24⟩ := Kd.R_form HO399.out (by omega)
                      (first | cases eo24 | (injection eo24 with ea_ en_ ec_; (first | subst ea_ | (injection ea_ with ea_; subst ea_)); subst ec_; clear en_))
                      have GB24 := Aside0.mk gb24
                      have GG24 := Aside0.mk HG24
                      clear gb24 gl24 HG24
                      (first | simp only [add_plain] at hx400_0 | skip)
                      obtain ⟨hx24_0, hf24_0⟩ := Kd.R_celln 0 HO399.out ((ji21) : Int) p24 q24
                      replace p24 := eq_true p24
                      replace q24 := eq_true q24
                      have HP110 := Kd.R_putn HO399.out ((ji21) : Int) (Go.bits .xor .u8 (rd y397 (ji21)) ((a1_1) % 256))
                      rw [← Ny401.out] at HP110
                      have HQ110 := Aside0.mk HP110
                      clear HP110
                      refine start_ (n := 16) (S := fun w' => w'.cell? ⟨gb388, 0, none⟩ = some (.int .i64 a1_0) ∧ w'.cell? ⟨gb388, 1, none⟩ = some (.int .i64 a1_1) ∧ w'.cell? ⟨go24, ((ji21)).toNat, none⟩ = some (.int .u8 (rd y397 (ji21)))) (ds := [15]) #[false, false, false, false, false, false, false, false, false, false, false, false, false, false, false, false] (by kernel_rfl) rfl rfl ⟨(blk_cell BK388.out 0).trans rfl, (blk_cell BK388.out 1).trans rfl, hx400_0⟩ (fun hHeld => ?_); refine with_tabW strakelaw06_MarkTurned.tab8 strakelaw06_MarkTurned.bits8 (fun HT_ HW_ => ?_)
                      generalize w107.drew = w108 at HO_6 HO399 BK387 BK388 HB GG24 HQ110 hf24_0 hx24_0 hx400_0 hHeld ⊢
                      refine pure_ (i := 0) (N := some 37) (v := ?_) (a' := ?_) #[true, false, false, false, false, false, false, false, false, false, false, false, false, false, false, false] rfl rfl (any_of HT_.out (by kernel_rfl)) (fun _ _ _ h => h) (Or.inl ⟨by rfl, ?_⟩) ?_ ?_
                      rotate_left
                      · intro w'
                        go_simp
                        with_reducible rfl
                      rotate_left
                      · simp only [Act.put, List.setIfInBounds_toArray, List.set_cons_zero, List.set_cons_succ, i64_w, i32_w]
                        rfl
                      refine pure_ (i := 1) (N := some 38) (v := ?_) (a' := ?_) #[true, true, false, false, false, false, false, false, false, false, false, false, false, false, false, false] rfl rfl (any_of HT_.out (by kernel_rfl)) (fun _ _ _ h => h) (Or.inl ⟨by rfl, ?_⟩) ?_ ?_
                      rotate_left
                      · intro w'
                        go_simp
                        with_reducible rfl
                      rotate_left
                      · simp only [Act.put, List.setIfInBounds_toArray, List.set_cons_zero, List.set_cons_succ, i64_w, i32_w]
                        rfl
                      refine pure_ (i := 4) (N := some 41) (v := ?_) (a' := ?_) #[true, true, false, false, true, false, false, false, false, false, false, false, false, false, false, false] rfl rfl (any_of HT_.out (by kernel_rfl)) (fun _ _ _ h => h) (Or.inl ⟨by rfl, ?_⟩) ?_ ?_
                      rotate_left
                      · intro w'
                        go_simp
                        with_reducible rfl
                      rotate_left
                      · simp only [Act.put, List.setIfInBounds_toArray, List.set_cons_zero, List.set_cons_succ, i64_w, i32_w]
                        rfl
                      refine pure_ (i := 5) (N := some 42) (v := ?_) (a' := ?_) #[true, true, false, false, true, true, false, false, false, false, false, false, false, false, false, false] rfl rfl (any_of HT_.out (by kernel_rfl)) (fun _ _ _ h => h) (Or.inl ⟨by rfl, ?_⟩) ?_ ?_
                      rotate_left
                      · intro w'
                        go_simp
                        with_reducible rfl
                      rotate_left
                      · simp only [Act.put, List.setIfInBounds_toArray, List.set_cons_zero, List.set_cons_succ, i64_w, i32_w]
                        rfl
                      refine pure_ (i := 10) (N := some 47) (v := ?_) (a' := ?_) #[true, true, false, false, true, true, false, false, false, false, true, false, false, false, false, false] rfl rfl (any_of HT_.out (by kernel_rfl)) (fun _ _ _ h => h) (Or.inl ⟨by rfl, ?_⟩) ?_ ?_
                      rotate_left
                      · intro w'
                        go_simp
                        with_reducible rfl
                      rotate_left
                      · simp only [Act.put, List.setIfInBounds_toArray, List.set_cons_zero, List.set_cons_succ, i64_w, i32_w]
                        rfl
                      refine take_ (i := 2) (N := some 39) (v := ?_) (a' := ?_) #[true, true, true, false, true, true, false, false, false, false, true, false, false, false, false, false] rfl rfl (take_ofW HT_.out HW_.out (by kernel_rfl)) (fun _ _ _ h => h) (Or.inl ⟨by rfl, ?_⟩) hHeld ?_ ?_
                      rotate_left
                      · rintro w' ⟨s0, s1, s2⟩
                        go_simp
                        with_reducible rfl
                      rotate_left
                      · simp only [Act.put, List.setIfInBounds_toArray, List.set_cons_zero, List.set_cons_succ, i64_w, i32_w]
                        rfl
                      refine pure_ (i := 3) (N := some 40) (v := ?_) (a' := ?_) #[true, true, true, true, true, true, false, false, false, false, true, false, false, false, false, false] rfl rfl (any_of HT_.out (by kernel_rfl)) (fun _ _ _ h => h) (Or.inl ⟨by rfl, ?_⟩) ?_ ?_
                      rotate_left
                      · intro w'
                        go_simp
                        with_reducible rfl
                      rotate_left
                      · simp only [Act.put, List.setIfInBounds_toArray, List.set_cons_zero, List.set_cons_succ, i64_w, i32_w]
                        rfl
                      refine take_ (i := 6) (N := some 43) (v := ?_) (a' := ?_) #[true, true, true, true, true, true, true, false, false, false, true, false, false, false, false, false] rfl rfl (take_ofW HT_.out HW_.out (by kernel_rfl)) (fun _ _ _ h => h) (Or.inl ⟨by rfl, ?_⟩) hHeld ?_ ?_
                      rotate_left
                      · rintro w' ⟨s0, s1, s2⟩
                        go_simp
                        with_reducible rfl
                      rotate_left
                      · simp only [Act.put, List.setIfInBounds_toArray, List.set_cons_zero, List.set_cons_succ, i64_w, i32_w]
                        rfl
                      refine pure_ (i := 7) (N := some 44) (v := ?_) (a' := ?_) #[true, true, true, true, true, true, true, true, false, false, true, false, false, false, false, false] rfl rfl (any_of HT_.out (by kernel_rfl)) (fun _ _ _ h => h) (Or.inl ⟨by rfl, ?_⟩) ?_ ?_
                      rotate_left
                      · intro w'
                        go_simp
                        with_reducible rfl
                      rotate_left
                      · simp only [Act.put, List.setIfInBounds_toArray, List.set_cons_zero, List.set_cons_succ, i64_w, i32_w]
                        rfl
                      refine pure_ (i := 8) (N := some 45) (v := ?_) (a' := ?_) #[true, true, true, true, true, true, true, true, true, false, true, false, false, false, false, false] rfl rfl (any_of HT_.out (by kernel_rfl)) (fun _ _ _ h => h) (Or.inl ⟨by rfl, ?_⟩) ?_ ?_
                      rotate_left
                      · intro w'
                        go_simp
                        with_reducible rfl
                      rotate_left
                      · simp only [Act.put, List.setIfInBounds_toArray, List.set_cons_zero, List.set_cons_succ, i64_w, i32_w]
                        rfl
                      refine take_ (i := 9) (N := some 46) (v := ?_) (a' := ?_) #[true, true, true, true, true, true, true, true, true, true, true, false, false, false, false, false] rfl rfl (take_ofW HT_.out HW_.out (by kernel_rfl)) (fun _ _ _ h => h) (Or.inl ⟨by rfl, ?_⟩) hHeld ?_ ?_
                      rotate_left
                      · rintro w' ⟨s0, s1, s2⟩
                        go_simp
                        with_reducible rfl
                      rotate_left
                      · simp only [Act.put, List.setIfInBounds_toArray, List.set_cons_zero, List.set_cons_succ, i64_w, i32_w]
                        rfl
                      refine take_ (i := 11) (N := some 48) (v := ?_) (a' := ?_) #[true, true, true, true, true, true, true, true, true, true, true, true, false, false, false, false] rfl rfl (take_ofW HT_.out HW_.out (by kernel_rfl)) (fun _ _ _ h => h) (Or.inl ⟨by rfl, ?_⟩) hHeld ?_ ?_
                      rotate_left
                      · rintro w' ⟨s0, s1, s2⟩
                        go_simp
                        with_reducible rfl
                      rotate_left
                      · simp only [Act.put, List.setIfInBounds_toArray, List.set_cons_zero, List.set_cons_succ, i64_w, i32_w]
                        rfl
                      refine pure_ (i := 12) (N := some 49) (v := ?_) (a' := ?_) #[true, true, true, true, true, true, true, true, true, true, true, true, true, false, false, false] rfl rfl (any_of HT_.out (by kernel_rfl)) (fun _ _ _ h => h) (Or.inl ⟨by rfl, ?_⟩) ?_ ?_
                      rotate_left
                      · intro w'
                        go_simp
                        with_reducible rfl
                      rotate_left
                      · simp only [Act.put, List.setIfInBounds_toArray, List.set_cons_zero, List.set_cons_succ, i64_w, i32_w]
                        rfl
                      refine pure_ (i := 13) (N := some 50) (v := ?_) (a' := ?_) #[true, true, true, true, true, true, true, true, true, true, true, true, true, true, false, false] rfl rfl (any_of HT_.out (by kernel_rfl)) (fun _ _ _ h => h) (Or.inl ⟨by rfl, ?_⟩) ?_ ?_
                      rotate_left
                      · intro w'
                        go_simp
                        with_reducible rfl
                      rotate_left
                      · simp only [Act.put, List.setIfInBounds_toArray, List.set_cons_zero, List.set_cons_succ, i64_w, i32_w]
                        rfl
                      refine pure_ (i := 14) (N := some 51) (v := ?_) (a' := ?_) #[true, true, true, true, true, true, true, true, true, true, true, true, true, true, true, false] rfl rfl (any_of HT_.out (by kernel_rfl)) (fun _ _ _ h => h) (Or.inl ⟨by rfl, ?_⟩) ?_ ?_
                      rotate_left
                      · intro w'
                        go_simp
                        with_reducible rfl
                      rotate_left
                      · simp only [Act.put, List.setIfInBounds_toArray, List.set_cons_zero, List.set_cons_succ, i64_w, i32_w]
                        rfl
                      refine last_ (i := 15) (N := none) #[true, true, true, true, true, true, true, true, true, true, true, true, true, true, true, true] rfl rfl (one_of HT_.out (by kernel_rfl)) (by decide) (fun K hK => ?_)
                      refine skip_ (w1 := ?_) (by rfl) rfl ?_ ?_
                      rotate_left
                      · go_simp
                        rfl
                      refine hK.out _ _ ?_
                      clear hK K
                      refine done_ (done_of HT_.out (by kernel_rfl)) ?_
                      have n0_ : Aside0 (Kd.R (Kd.int .u8) 5 (w108.setCell ⟨go24, ((ji21) : Int).toNat, none⟩ (.int .u8 (Go.bits .xor .u8 (rd y397 (ji21)) ((a1_1) % 256)))) w.heap.size (fun k_ => some k_ ≠ (.slice (some ⟨go24, 0, none⟩) y397.length co109 : Value).ownBlock) (.slice Ao104 t390.length co104) t390) := ⟨by (with_reducible repeat (first | apply Kd.R_alloc | apply Kd.R_drewN | apply Kd.R_drew)); exact Kd.R_mono (Kd.R_far (p := ⟨go24, ((ji21) : Int).toNat, none⟩) (Kd.R_mono HO_6.out (fun k_ hk => (⟨hk, fun e_ => hk.2 (by rw [e_]; rfl)⟩ : _ ∧ k_ ≠ go24))) (fun _ hk => hk.2) (.int .u8 (Go.bits .xor .u8 (rd y397 (ji21)) ((a1_1) % 256)))) (fun _ hk => hk.1.2)⟩
                      have n1_ : Aside0 (Kd.R (Kd.int .u8) 5 (w108.setCell ⟨go24, ((ji21) : Int).toNat, none⟩ (.int .u8 (Go.bits .xor .u8 (rd y397 (ji21)) ((a1_1) % 256)))) w.heap.size (fun k_ => some k_ ≠ (.slice Ao104 t390.length co104 : Value).ownBlock) (.slice (some ⟨go24, 0, none⟩) y397.length co109) y401) := ⟨by (with_reducible repeat (first | apply Kd.R_alloc | apply Kd.R_drewN | apply Kd.R_drew)); exact HQ110.out⟩
                      have n2_ : Aside0 ((w108.setCell ⟨go24, ((ji21) : Int).toNat, none⟩ (.int .u8 (Go.bits .xor .u8 (rd y397 (ji21)) ((a1_1) % 256)))).heap[gb387]? = some (.cells #[.int .i64 a0_0, .int .i64 a0_1, .int .i64 a0_2] 23 (0, 0))) := ⟨by (with_reducible repeat (first | refine blk_drewN ?_ _ | refine blk_drew ?_ | refine blk_alloc ?_ _)); refine blk_far ?_ (by have h_ := Kd.R_ne HO399.out BK387.out (by decide); intro e_; exact h_ (by rw [e_]; rfl)) _; (with_reducible repeat (first | refine blk_drewN ?_ _ | refine blk_drew ?_ | refine blk_alloc ?_ _)); exact BK387.out⟩
                      have n3_ : Aside0 ((w108.setCell ⟨go24, ((ji21) : Int).toNat, none⟩ (.int .u8 (Go.bits .xor .u8 (rd y397 (ji21)) ((a1_1) % 256)))).heap[gb388]? = some (.cells #[.int .i64 a1_0, .int .i64 a1_1] 45 (0, 0))) := ⟨by (with_reducible repeat (first | refine blk_drewN ?_ _ | refine blk_drew ?_ | refine blk_alloc ?_ _)); refine blk_far ?_ (by have h_ := Kd.R_ne HO399.out BK388.out (by decide); intro e_; exact h_ (by rw [e_]; rfl)) _; (with_reducible repeat (first | refine blk_drewN ?_ _ | refine blk_drew ?_ | refine blk_alloc ?_ _)); exact BK388.out⟩
                      have n4_ : Aside0 (Below w.heap.size w (w108.setCell ⟨go24, ((ji21) : Int).toNat, none⟩ (.int .u8 (Go.bits .xor .u8 (rd y397 (ji21)) ((a1_1) % 256))))) := ⟨by repeat (first | (with_reducible first | exact HB.out | apply below_alloc | apply pw_below_drewN | apply below_drew1 | refine below_set ?_ GB24.out | refine below_set ?_ GE387.out | refine below_set ?_ GE388.out) | exact HB.out)⟩
                      (try clear HO_6)
                      (try clear HO399)
                      (try clear BK387)
                      (try clear BK388)
                      (try clear HB)
                      (try simp only [IntKind.wrap_u8, IntKind.wrap_u32])
                      generalize (w108.setCell ⟨go24, ((ji21) : Int).toNat, none⟩ (.int .u8 (Go.bits .xor .u8 (rd y397 (ji21)) ((a1_1) % 256)))) = w111 at n0_ n1_ n2_ n3_ n4_ ⊢
                      have HO_6 := n0_
                      have HO399 := n1_
                      have BK387 := n2_
                      have BK388 := n3_
                      have HB := n4_
                      clear n0_ n1_ n2_ n3_ n4_
                      try go_wp2_with (first | ((with_reducible refine gate_callee (f := 28) rfl ?_); refine goesL_ (some 54) rfl rfl Try.func28 (by kernel_rfl) rfl #[.slice (some ⟨go24, 0, none⟩) y401.length co109] rfl (by (try simp only [List.map_toArray, List.map_cons, List.map_nil]); first | done | (rw [show y401.length = y397.length from (Kd.R_reads' HO399.out).1.symm] <;> rfl) | rfl | (simp only [List.length_drop, List.length_take]; rfl)) ?_; (with_reducible refine (mark_Read.calls kj4 _ _ y401 t402 t403 t404 t405 _ ?side1 ?side2 A25.out).mono ?_); (case side1 => repeat (first | exact (Kd.R_reads' HO399.out).2.2 | (with_reducible refine Kd.C_alloc ?_ _) | (with_reducible refine Kd.C_drewN ?_ _) | (with_reducible refine Kd.C_drew ?_))); (case side2 => rw [show y401.length = y397.length from (Kd.R_reads' HO399.out).1.symm]; exact (Kd.R_reads' HO399.out).2.1); rintro e w112 ⟨rfl, hb⟩; refine ⟨_, rfl, ?_⟩; have n0_ := Aside0.mk (Kd.R_below (by (with_reducible repeat (first | apply Kd.R_alloc | apply Kd.R_drewN | apply Kd.R_drew)); exact HO_6.out) hb); have n1_ := Aside0.mk (Kd.R_below (by (with_reducible repeat (first | apply Kd.R_alloc | apply Kd.R_drewN | apply Kd.R_drew)); exact HO399.out) hb); have n2_ := Aside0.mk (blk_below (g := gb387) (o := .cells #[.int .i64 a0_0, .int .i64 a0_1, .int .i64 a0_2] 23 (0, 0)) (by (with_reducible repeat (first | refine blk_drewN ?_ _ | refine blk_drew ?_ | refine blk_alloc ?_ _)); exact BK387.out) hb); have n3_ := Aside0.mk (blk_below (g := gb388) (o := .cells #[.int .i64 a1_0, .int .i64 a1_1] 45 (0, 0)) (by (with_reducible repeat (first | refine blk_drewN ?_ _ | refine blk_drew ?_ | refine blk_alloc ?_ _)); exact BK388.out) hb); have n4_ := Aside0.mk (below_step (by repeat (first | (with_reducible first | exact HB.out | apply below_alloc | apply pw_below_drewN | apply below_drew1 | refine below_set ?_ GE387.out | refine below_set ?_ GE388.out) | exact HB.out)) hb); clear HO_6; clear HO399; clear BK387; clear BK388; clear HB; have HO_6 := n0_; have HO399 := n1_; have BK387 := n2_; have BK388 := n3_; have HB := n4_; clear n0_ n1_ n2_ n3_ n4_; (try clear hb); (try clear hb2); (try clear hk); (try clear hi)) | ((with_reducible refine gate_dst (N := 9) rfl ?_); refine box_event ?hg (N := 9) ?hd (cs := #[.int .i64 0, .int .i64 0, .int .i64 0]) (t := 23) ?hr ?_; (case hd => rfl); (case hg => rfl); (case hr => first | (go_simp; done) | (go_simp; rfl)); intro gb406 hg w113 hbox hb; have n0_ := Aside0.mk (Kd.R_below (by (with_reducible repeat (first | apply Kd.R_alloc | apply Kd.R_drewN | apply Kd.R_drew)); exact HO_6.out) hb); have n1_ := Aside0.mk (Kd.R_below (by (with_reducible repeat (first | apply Kd.R_alloc | apply Kd.R_drewN | apply Kd.R_drew)); exact HO399.out) hb); have n2_ := Aside0.mk (blk_below (g := gb387) (o := .cells #[.int .i64 a0_0, .int .i64 a0_1, .int .i64 a0_2] 23 (0, 0)) (by (with_reducible repeat (first | refine blk_drewN ?_ _ | refine blk_drew ?_ | refine blk_alloc ?_ _)); exact BK387.out) hb); have n3_ := Aside0.mk (blk_below (g := gb388) (o := .cells #[.int .i64 a1_0, .int .i64 a1_1] 45 (0, 0)) (by (with_reducible repeat (first | refine blk_drewN ?_ _ | refine blk_drew ?_ | refine blk_alloc ?_ _)); exact BK388.out) hb); have n4_ := Aside0.mk (below_step (by repeat (first | (with_reducible first | exact HB.out | apply below_alloc | apply pw_below_drewN | apply below_drew1 | refine below_set ?_ GE387.out | refine below_set ?_ GE388.out) | exact HB.out)) hb); have n5_ := Aside0.mk (hbox); have n6_ := Aside0.mk ((by rw [hg]; exact (below_size (by repeat (first | (with_reducible first | exact HB.out | apply below_alloc | apply pw_below_drewN | apply below_drew1 | refine below_set ?_ GE387.out | refine below_set ?_ GE388.out) | exact HB.out))) : w.heap.size ≤ gb406)); have n7_ := Aside0.mk ((by rw [hg]; exact (below_size (by repeat (first | (with_reducible first | exact HB.out | apply below_alloc | apply pw_below_drewN | apply below_drew1 | refine below_set ?_ GE387.out | refine below_set ?_ GE388.out) | exact HB.out))) : w.heap.size ≤ gb406)); have n8_ := Aside0.mk ((by rw [hg]; exact Nat.ne_of_lt (blk_lt (g := gb387) (o := .cells #[.int .i64 a0_0, .int .i64 a0_1, .int .i64 a0_2] 23 (0, 0)) (by (with_reducible repeat (first | refine blk_drewN ?_ _ | refine blk_drew ?_ | refine blk_alloc ?_ _)); exact BK387.out)) : gb387 ≠ gb406)); have n9_ := Aside0.mk ((by rw [hg]; exact Nat.ne_of_gt (blk_lt (g := gb387) (o := .cells #[.int .i64 a0_0, .int .i64 a0_1, .int .i64 a0_2] 23 (0, 0)) (by (with_reducible repeat (first | refine blk_drewN ?_ _ | refine blk_drew ?_ | refine blk_alloc ?_ _)); exact BK387.out)) : gb406 ≠ gb387)); have n10_ := Aside0.mk ((by rw [hg]; exact Nat.ne_of_lt (blk_lt (g := gb388) (o := .cells #[.int .i64 a1_0, .int .i64 a1_1] 45 (0, 0)) (by (with_reducible repeat (first | refine blk_drewN ?_ _ | refine blk_drew ?_ | refine blk_alloc ?_ _)); exact BK388.out)) : gb388 ≠ gb406)); have n11_ := Aside0.mk ((by rw [hg]; exact Nat.ne_of_gt (blk_lt (g := gb388) (o := .cells #[.int .i64 a1_0, .int .i64 a1_1] 45 (0, 0)) (by (with_reducible repeat (first | refine blk_drewN ?_ _ | refine blk_drew ?_ | refine blk_alloc ?_ _)); exact BK388.out)) : gb406 ≠ gb388)); clear HO_6; clear HO399; clear BK387; clear BK388; clear HB; have HO_6 := n0_; have HO399 := n1_; have BK387 := n2_; have BK388 := n3_; have HB := n4_; have BK406 := n5_; have GW406 := n6_; have GE406 := n7_; have NB387_406 := n8_; have NB406_387 := n9_; have NB388_406 := n10_; have NB406_388 := n11_; clear n0_ n1_ n2_ n3_ n4_ n5_ n6_ n7_ n8_ n9_ n10_ n11_; clear hb hbox hg; have hnb114 := NB406_387.out; have hnc114 := NB387_406.out; have hnb115 := NB406_388.out; have hnc115 := NB388_406.out; have hcz116_0 : w113.cell? ⟨gb406, 0, none⟩ = some (.int .i64 0) := (blk_cell BK406.out 0).trans rfl; have hcz116_1 : w113.cell? ⟨gb406, 1, none⟩ = some (.int .i64 0) := (blk_cell BK406.out 1).trans rfl; have hcz116_2 : w113.cell? ⟨gb406, 2, none⟩ = some (.int .i64 0) := (blk_cell BK406.out 2).trans rfl; have hfz116_0 := blk_frozen BK406.out 0; have hfz116_1 := blk_frozen BK406.out 1; have hfz116_2 := blk_frozen BK406.out 2))
                      go_ret
                      exact ⟨by first | rfl | (simp [errW_none, errW_some] <;> rfl) | (simp only [← hji21]; first | rfl | (simp [errW_none, errW_some] <;> rfl)) | (simp [*, errW_none, errW_some] <;> rfl), by repeat (first | (with_reducible first | exact HB.out | apply below_alloc | apply pw_below_drewN | apply below_drew1 | refine below_set ?_ GE387.out | refine below_set ?_ GE388.out | refine below_set ?_ GE406.out) | exact HB.out)⟩
                  · replace c56 := Bool.eq_false_iff.mpr c56
                    subst c56
                    have H1 : (some false) = some r := by rw [if_neg (show ¬ (false = true) by decide)] at H; exact H
                    clear H
                    have H := H1
                    clear H1
                    obtain rfl := Option.some.inj H
                    obtain ⟨Ao117, co117, eo117⟩ := Kd.R_slice HO_6.out
                    subst eo117
                    try go_wp2_with (first | ((with_reducible refine gate_dst (N := 34) rfl ?_); refine Kd.R_lit (Kd.int .u8) _ 5 ?hg (N := 34) ?hd (xs := ([] : List Int)) (inner := []) (ok := fun _ => True) (okp := fun _ => True) ?hr ?hp (fun _ hk => hk) trivial (Below.refl _ _) (Nat.le_refl _) (by simp) ?_; (case hd => rfl); (case hg => rfl); (case hr => first | (go_simp; done) | (go_simp; rfl)); (case hp => exact (Reps.none _ _)); intro v395 w118 ho119 hb hg_ hnew_; clear hg_ hnew_; (first | rw [← Ny394.out] at ho119 | (simp only [Int.reduceToNat] at ho119; rw [← Ny394.out] at ho119)); have n0_ := Aside0.mk (Kd.R_elder' (by (with_reducible repeat (first | apply Kd.R_alloc | apply Kd.R_drewN | apply Kd.R_drew)); exact HO_6.out) (Kd.R_base ho119) hb); have n1_ := Aside0.mk (Kd.R_lower (Kd.R_new' ho119 (Kd.R_lt (by (with_reducible repeat (first | apply Kd.R_alloc | apply Kd.R_drewN | apply Kd.R_drew)); exact HO_6.out))) (below_size (by repeat (first | (with_reducible first | exact HB.out | apply below_alloc | apply pw_below_drewN | apply below_drew1 | refine below_set ?_ GE387.out | refine below_set ?_ GE388.out) | exact HB.out)))); have n2_ := Aside0.mk (blk_below (g := gb387) (o := .cells #[.int .i64 a0_0, .int .i64 a0_1, .int .i64 a0_2] 23 (0, 0)) (by (with_reducible repeat (first | refine blk_drewN ?_ _ | refine blk_drew ?_ | refine blk_alloc ?_ _)); exact BK387.out) hb); have n3_ := Aside0.mk (blk_below (g := gb388) (o := .cells #[.int .i64 a1_0, .int .i64 a1_1] 45 (0, 0)) (by (with_reducible repeat (first | refine blk_drewN ?_ _ | refine blk_drew ?_ | refine blk_alloc ?_ _)); exact BK388.out) hb); have n4_ := Aside0.mk (below_step (by repeat (first | (with_reducible first | exact HB.out | apply below_alloc | apply pw_below_drewN | apply below_drew1 | refine below_set ?_ GE387.out | refine below_set ?_ GE388.out) | exact HB.out)) hb); clear HO_6; clear BK387; clear BK388; clear HB; have HO_6 := n0_; have HO396 := n1_; have BK387 := n2_; have BK388 := n3_; have HB := n4_; clear n0_ n1_ n2_ n3_ n4_; clear hb ho119) | ((with_reducible refine gate_builtin (b := .append) (xs := #[.tmp 34, .tmp 35]) rfl ?_); at_builtin; refine Kd.R_append_rows (Kd.int .u8) (w0 := w) w.heap.size rfl (.tmp 34) (.tmp 35) 25 5 (.int .u8 0) 1 rfl Try.underlying25 info5 rfl (by decide) (by omega) v395 y394 t390 _ _ _ (fun k_ => some k_ ≠ (.slice Ao117 t390.length co117 : Value).ownBlock) (fun _ => False) rfl rfl ?aO ?aR (fun _ _ h => h) (fun _ h => h.elim) ?aF ?aB ?aS ?aL ?_; (case aR => repeat (first | exact (Kd.R_reads' HO_6.out).2.2 | (with_reducible refine Kd.C_alloc ?_ _) | (with_reducible refine Kd.C_drewN ?_ _) | (with_reducible refine Kd.C_drew ?_))); (case aB => exact (by repeat (first | (with_reducible first | exact HB.out | apply below_alloc | apply pw_below_drewN | apply below_drew1 | refine below_set ?_ GE387.out | refine below_set ?_ GE388.out) | exact HB.out))); (case aF => exact (fun k_ hk => Kd.fresh' (Kd.R_lt (by (with_reducible repeat (first | apply Kd.R_alloc | apply Kd.R_drewN | apply Kd.R_drew)); exact HO_6.out)) k_ hk)); (case aO => exact (by (with_reducible repeat (first | apply Kd.R_alloc | apply Kd.R_drewN | apply Kd.R_drew)); exact Kd.R_mono HO396.out (fun _ hk => hk.2))); (case aS => exact (below_size (by repeat (first | (with_reducible first | exact HB.out | apply below_alloc | apply pw_below_drewN | apply below_drew1 | refine below_set ?_ GE387.out | refine below_set ?_ GE388.out) | exact HB.out)))); (case aL => have := LMc20.out; omega); intro v398 w120 ho hb hg hat; rw [← Ny397.out] at ho; have n0_ := Aside0.mk (Kd.R_after (ok := (fun _ => True)) (by (with_reducible repeat (first | apply Kd.R_alloc | apply Kd.R_drewN | apply Kd.R_drew)); exact HO_6.out) hg hat); have n1_ := Aside0.mk (blk_grown (g := gb387) (o := .cells #[.int .i64 a0_0, .int .i64 a0_1, .int .i64 a0_2] 23 (0, 0)) (by (with_reducible repeat (first | refine blk_drewN ?_ _ | refine blk_drew ?_ | refine blk_alloc ?_ _)); exact BK387.out) hg (Kd.R_ne HO396.out BK387.out (by decide))); have n2_ := Aside0.mk (blk_grown (g := gb388) (o := .cells #[.int .i64 a1_0, .int .i64 a1_1] 45 (0, 0)) (by (with_reducible repeat (first | refine blk_drewN ?_ _ | refine blk_drew ?_ | refine blk_alloc ?_ _)); exact BK388.out) hg (Kd.R_ne HO396.out BK388.out (by decide))); have n3_ := Aside0.mk (hb); have n4_ := Aside0.mk (ho); clear HO_6; clear BK387; clear BK388; clear HB; clear HO396; have HO_6 := n0_; have BK387 := n1_; have BK388 := n2_; have HB := n3_; have HO399 := n4_; clear n0_ n1_ n2_ n3_ n4_; clear ho hb hg hat))
                    (try (rw [drewN_self w120]; generalize hq_ : World.drewN w120 _ = w120; have n0_ : Aside0 (Kd.R (Kd.int .u8) 5 w120 w.heap.size (fun k_ => some k_ ≠ (.slice Ao117 t390.length co117 : Value).ownBlock) v398 y397) := ⟨by rw [← hq_]; exact (by (with_reducible repeat (first | apply Kd.R_alloc | apply Kd.R_drewN | apply Kd.R_drew)); exact HO399.out)⟩; have n1_ : Aside0 (Kd.R (Kd.int .u8) 5 w120 w.heap.size (fun k_ => some k_ ≠ (v398 : Value).ownBlock) (.slice Ao117 t390.length co117) t390) := ⟨by rw [← hq_]; exact (by (with_reducible repeat (first | apply Kd.R_alloc | apply Kd.R_drewN | apply Kd.R_drew)); exact Kd.R_mono HO_6.out (fun _ hk => hk.2))⟩; have n2_ : Aside0 (w120.heap[gb387]? = some (.cells #[.int .i64 a0_0, .int .i64 a0_1, .int .i64 a0_2] 23 (0, 0))) := ⟨by rw [← hq_]; exact (by (with_reducible repeat (first | refine blk_drewN ?_ _ | refine blk_drew ?_ | refine blk_alloc ?_ _)); exact BK387.out)⟩; have n3_ : Aside0 (w120.heap[gb388]? = some (.cells #[.int .i64 a1_0, .int .i64 a1_1] 45 (0, 0))) := ⟨by rw [← hq_]; exact (by (with_reducible repeat (first | refine blk_drewN ?_ _ | refine blk_drew ?_ | refine blk_alloc ?_ _)); exact BK388.out)⟩; have n4_ : Aside0 (Below w.heap.size w w120) := ⟨by rw [← hq_]; exact (by repeat (first | (with_reducible first | exact HB.out | apply below_alloc | apply pw_below_drewN | apply below_drew1 | refine below_set ?_ GE387.out | refine below_set ?_ GE388.out) | exact HB.out))⟩; clear HO399 HO_6 BK387 BK388 HB hq_; have HO399 := n0_; have HO_6 := n1_; have BK387 := n2_; have BK388 := n3_; have HB := n4_; clear n0_ n1_ n2_ n3_ n4_))
                    have n0_ := Aside0.mk (Kd.R_drew HO_6.out)
                    have n1_ := Aside0.mk (Kd.R_drew HO399.out)
                    have n2_ := Aside0.mk (blk_drew BK387.out)
                    have n3_ := Aside0.mk (blk_drew BK388.out)
                    have n4_ := Aside0.mk (below_drew1 HB.out)
                    clear HO_6
                    clear HO399
                    clear BK387
                    clear BK388
                    clear HB
                    have HO_6 := n0_
                    have HO399 := n1_
                    have BK387 := n2_
                    have BK388 := n3_
                    have HB := n4_
                    clear n0_ n1_ n2_ n3_ n4_
                    obtain ⟨Ao122, co122, eo122⟩ := Kd.R_slice HO399.out
                    (first | subst eo122 | (injection eo122 with f1_ f2_ f3_; have f4_ := f1_.symm; have f5_ := f3_.symm; clear f1_ f2_ f3_; subst f4_; subst f5_))
                    have p400 : 0 ≤ ((ji21) : Int) := of_decide_eq_true (by first | (with_reducible assumption) | assumption)
                    have q400 : (ji21) < (y397.length : Int) := of_decide_eq_true (by first | (with_reducible assumption) | assumption)
                    obtain ⟨ad400, e400, hx400_0⟩ := Kd.at_int (Kd.R_reads' HO399.out).2.2 (ji21) p400 q400
                    cases e400
                    replace p400 := eq_true p400
                    replace q400 := eq_true q400
                    have p24 : 0 ≤ ((ji21) : Int) := of_decide_eq_true (by first | (with_reducible assumption) | assumption)
                    have q24 : ((ji21) : Int) < ((y397.length : Int) : Int) := of_decide_eq_true (by first | (with_reducible assumption) | assumption)
                    obtain ⟨go24, co24, eo24, gb24, gl24, cl24, HG24⟩ := Kd.R_form HO399.out (by omega)
                    (first | cases eo24 | (injection eo24 with ea_ en_ ec_; (first | subst ea_ | (injection ea_ with ea_; subst ea_)); subst ec_; clear en_))
                    have GB24 := Aside0.mk gb24
                    have GG24 := Aside0.mk HG24
                    clear gb24 gl24 HG24
                    (first | simp only [add_plain] at hx400_0 | skip)
                    obtain ⟨hx24_0, hf24_0⟩ := Kd.R_celln 0 HO399.out ((ji21) : Int) p24 q24
                    replace p24 := eq_true p24
                    replace q24 := eq_true q24
                    have HP123 := Kd.R_putn HO399.out ((ji21) : Int) (Go.bits .xor .u8 (rd y397 (ji21)) ((a1_1) % 256))
                    rw [← Ny401.out] at HP123
                    have HQ123 := Aside0.mk HP123
                    clear HP123
                    refine start_ (n := 16) (S := fun w' => w'.cell? ⟨gb388, 0, none⟩ = some (.int .i64 a1_0) ∧ w'.cell? ⟨gb388, 1, none⟩ = some (.int .i64 a1_1) ∧ w'.cell? ⟨go24, ((ji21)).toNat, none⟩ = some (.int .u8 (rd y397 (ji21)))) (ds := [15]) #[false, false, false, false, false, false, false, false, false, false, false, false, false, false, false, false] (by kernel_rfl) rfl rfl ⟨(blk_cell BK388.out 0).trans rfl, (blk_cell BK388.out 1).trans rfl, hx400_0⟩ (fun hHeld => ?_); refine with_tabW strakelaw06_MarkTurned.tab8 strakelaw06_MarkTurned.bits8 (fun HT_ HW_ => ?_)
                    generalize w120.drew = w121 at HO_6 HO399 BK387 BK388 HB GG24 HQ123 hf24_0 hx24_0 hx400_0 hHeld ⊢
                    refine pure_ (i := 0) (N := some 37) (v := ?_) (a' := ?_) #[true, false, false, false, false, false, false, false, false, false, false, false, false, false, false, false] rfl rfl (any_of HT_.out (by kernel_rfl)) (fun _ _ _ h => h) (Or.inl ⟨by rfl, ?_⟩) ?_ ?_
                    rotate_left
                    · intro w'
                      go_simp
                      with_reducible rfl
                    rotate_left
                    · simp only [Act.put, List.setIfInBounds_toArray, List.set_cons_zero, List.set_cons_succ, i64_w, i32_w]
                      rfl
                    refine pure_ (i := 1) (N := some 38) (v := ?_) (a' := ?_) #[true, true, false, false, false, false, false, false, false, false, false, false, false, false, false, false] rfl rfl (any_of HT_.out (by kernel_rfl)) (fun _ _ _ h => h) (Or.inl ⟨by rfl, ?_⟩) ?_ ?_
                    rotate_left
                    · intro w'
                      go_simp
                      with_reducible rfl
                    rotate_left
                    · simp only [Act.put, List.setIfInBounds_toArray, List.set_cons_zero, List.set_cons_succ, i64_w, i32_w]
                      rfl
                    refine pure_ (i := 4) (N := some 41) (v := ?_) (a' := ?_) #[true, true, false, false, true, false, false, false, false, false, false, false, false, false, false, false] rfl rfl (any_of HT_.out (by kernel_rfl)) (fun _ _ _ h => h) (Or.inl ⟨by rfl, ?_⟩) ?_ ?_
                    rotate_left
                    · intro w'
                      go_simp
                      with_reducible rfl
                    rotate_left
                    · simp only [Act.put, List.setIfInBounds_toArray, List.set_cons_zero, List.set_cons_succ, i64_w, i32_w]
                      rfl
                    refine pure_ (i := 5) (N := some 42) (v := ?_) (a' := ?_) #[true, true, false, false, true, true, false, false, false, false, false, false, false, false, false, false] rfl rfl (any_of HT_.out (by kernel_rfl)) (fun _ _ _ h => h) (Or.inl ⟨by rfl, ?_⟩) ?_ ?_
                    rotate_left
                    · intro w'
                      go_simp
                      with_reducible rfl
                    rotate_left
                    · simp only [Act.put, List.setIfInBounds_toArray, List.set_cons_zero, List.set_cons_succ, i64_w, i32_w]
                      rfl
                    refine pure_ (i := 10) (N := some 47) (v := ?_) (a' := ?_) #[true, true, false, false, true, true, false, false, false, false, true, false, false, false, false, false] rfl rfl (any_of HT_.out (by kernel_rfl)) (fun _ _ _ h => h) (Or.inl ⟨by rfl, ?_⟩) ?_ ?_
                    rotate_left
                    · intro w'
                      go_simp
                      with_reducible rfl
                    rotate_left
                    · simp only [Act.put, List.setIfInBounds_toArray, List.set_cons_zero, List.set_cons_succ, i64_w, i32_w]
                      rfl
                    refine take_ (i := 2) (N := some 39) (v := ?_) (a' := ?_) #[true, true, true, false, true, true, false, false, false, false, true, false, false, false, false, false] rfl rfl (take_ofW HT_.out HW_.out (by kernel_rfl)) (fun _ _ _ h => h) (Or.inl ⟨by rfl, ?_⟩) hHeld ?_ ?_
                    rotate_left
                    · rintro w' ⟨s0, s1, s2⟩
                      go_simp
                      with_reducible rfl
                    rotate_left
                    · simp only [Act.put, List.setIfInBounds_toArray, List.set_cons_zero, List.set_cons_succ, i64_w, i32_w]
                      rfl
                    refine pure_ (i := 3) (N := some 40) (v := ?_) (a' := ?_) #[true, true, true, true, true, true, false, false, false, false, true, false, false, false, false, false] rfl rfl (any_of HT_.out (by kernel_rfl)) (fun _ _ _ h => h) (Or.inl ⟨by rfl, ?_⟩) ?_ ?_
                    rotate_left
                    · intro w'
                      go_simp
                      with_reducible rfl
                    rotate_left
                    · simp only [Act.put, List.setIfInBounds_toArray, List.set_cons_zero, List.set_cons_succ, i64_w, i32_w]
                      rfl
                    refine take_ (i := 6) (N := some 43) (v := ?_) (a' := ?_) #[true, true, true, true, true, true, true, false, false, false, true, false, false, false, false, false] rfl rfl (take_ofW HT_.out HW_.out (by kernel_rfl)) (fun _ _ _ h => h) (Or.inl ⟨by rfl, ?_⟩) hHeld ?_ ?_
                    rotate_left
                    · rintro w' ⟨s0, s1, s2⟩
                      go_simp
                      with_reducible rfl
                    rotate_left
                    · simp only [Act.put, List.setIfInBounds_toArray, List.set_cons_zero, List.set_cons_succ, i64_w, i32_w]
                      rfl
                    refine pure_ (i := 7) (N := some 44) (v := ?_) (a' := ?_) #[true, true, true, true, true, true, true, true, false, false, true, false, false, false, false, false] rfl rfl (any_of HT_.out (by kernel_rfl)) (fun _ _ _ h => h) (Or.inl ⟨by rfl, ?_⟩) ?_ ?_
                    rotate_left
                    · intro w'
                      go_simp
                      with_reducible rfl
                    rotate_left
                    · simp only [Act.put, List.setIfInBounds_toArray, List.set_cons_zero, List.set_cons_succ, i64_w, i32_w]
                      rfl
                    refine pure_ (i := 8) (N := some 45) (v := ?_) (a' := ?_) #[true, true, true, true, true, true, true, true, true, false, true, false, false, false, false, false] rfl rfl (any_of HT_.out (by kernel_rfl)) (fun _ _ _ h => h) (Or.inl ⟨by rfl, ?_⟩) ?_ ?_
                    rotate_left
                    · intro w'
                      go_simp
                      with_reducible rfl
                    rotate_left
                    · simp only [Act.put, List.setIfInBounds_toArray, List.set_cons_zero, List.set_cons_succ, i64_w, i32_w]
                      rfl
                    refine take_ (i := 9) (N := some 46) (v := ?_) (a' := ?_) #[true, true, true, true, true, true, true, true, true, true, true, false, false, false, false, false] rfl rfl (take_ofW HT_.out HW_.out (by kernel_rfl)) (fun _ _ _ h => h) (Or.inl ⟨by rfl, ?_⟩) hHeld ?_ ?_
                    rotate_left
                    · rintro w' ⟨s0, s1, s2⟩
                      go_simp
                      with_reducible rfl
                    rotate_left
                    · simp only [Act.put, List.setIfInBounds_toArray, List.set_cons_zero, List.set_cons_succ, i64_w, i32_w]
                      rfl
                    refine take_ (i := 11) (N := some 48) (v := ?_) (a' := ?_) #[true, true, true, true, true, true, true, true, true, true, true, true, false, false, false, false] rfl rfl (take_ofW HT_.out HW_.out (by kernel_rfl)) (fun _ _ _ h => h) (Or.inl ⟨by rfl, ?_⟩) hHeld ?_ ?_
                    rotate_left
                    · rintro w' ⟨s0, s1, s2⟩
                      go_simp
                      with_reducible rfl
                    rotate_left
                    · simp only [Act.put, List.setIfInBounds_toArray, List.set_cons_zero, List.set_cons_succ, i64_w, i32_w]
                      rfl
                    refine pure_ (i := 12) (N := some 49) (v := ?_) (a' := ?_) #[true, true, true, true, true, true, true, true, true, true, true, true, true, false, false, false] rfl rfl (any_of HT_.out (by kernel_rfl)) (fun _ _ _ h => h) (Or.inl ⟨by rfl, ?_⟩) ?_ ?_
                    rotate_left
                    · intro w'
                      go_simp
                      with_reducible rfl
                    rotate_left
                    · simp only [Act.put, List.setIfInBounds_toArray, List.set_cons_zero, List.set_cons_succ, i64_w, i32_w]
                      rfl
                    refine pure_ (i := 13) (N := some 50) (v := ?_) (a' := ?_) #[true, true, true, true, true, true, true, true, true, true, true, true, true, true, false, false] rfl rfl (any_of HT_.out (by kernel_rfl)) (fun _ _ _ h => h) (Or.inl ⟨by rfl, ?_⟩) ?_ ?_
                    rotate_left
                    · intro w'
                      go_simp
                      with_reducible rfl
                    rotate_left
                    · simp only [Act.put, List.setIfInBounds_toArray, List.set_cons_zero, List.set_cons_succ, i64_w, i32_w]
                      rfl
                    refine pure_ (i := 14) (N := some 51) (v := ?_) (a' := ?_) #[true, true, true, true, true, true, true, true, true, true, true, true, true, true, true, false] rfl rfl (any_of HT_.out (by kernel_rfl)) (fun _ _ _ h => h) (Or.inl ⟨by rfl, ?_⟩) ?_ ?_
                    rotate_left
                    · intro w'
                      go_simp
                      with_reducible rfl
                    rotate_left
                    · simp only [Act.put, List.setIfInBounds_toArray, List.set_cons_zero, List.set_cons_succ, i64_w, i32_w]
                      rfl
                    refine last_ (i := 15) (N := none) #[true, true, true, true, true, true, true, true, true, true, true, true, true, true, true, true] rfl rfl (one_of HT_.out (by kernel_rfl)) (by decide) (fun K hK => ?_)
                    refine skip_ (w1 := ?_) (by rfl) rfl ?_ ?_
                    rotate_left
                    · go_simp
                      rfl
                    refine hK.out _ _ ?_
                    clear hK K
                    refine done_ (done_of HT_.out (by kernel_rfl)) ?_
                    have n0_ : Aside0 (Kd.R (Kd.int .u8) 5 (w121.setCell ⟨go24, ((ji21) : Int).toNat, none⟩ (.int .u8 (Go.bits .xor .u8 (rd y397 (ji21)) ((a1_1) % 256)))) w.heap.size (fun k_ => some k_ ≠ (.slice (some ⟨go24, 0, none⟩) y397.length co122 : Value).ownBlock) (.slice Ao117 t390.length co117) t390) := ⟨by (with_reducible repeat (first | apply Kd.R_alloc | apply Kd.R_drewN | apply Kd.R_drew)); exact Kd.R_mono (Kd.R_far (p := ⟨go24, ((ji21) : Int).toNat, none⟩) (Kd.R_mono HO_6.out (fun k_ hk => (⟨hk, fun e_ => hk.2 (by rw [e_]; rfl)⟩ : _ ∧ k_ ≠ go24))) (fun _ hk => hk.2) (.int .u8 (Go.bits .xor .u8 (rd y397 (ji21)) ((a1_1) % 256)))) (fun _ hk => hk.1.2)⟩
                    have n1_ : Aside0 (Kd.R (Kd.int .u8) 5 (w121.setCell ⟨go24, ((ji21) : Int).toNat, none⟩ (.int .u8 (Go.bits .xor .u8 (rd y397 (ji21)) ((a1_1) % 256)))) w.heap.size (fun k_ => some k_ ≠ (.slice Ao117 t390.length co117 : Value).ownBlock) (.slice (some ⟨go24, 0, none⟩) y397.length co122) y401) := ⟨by (with_reducible repeat (first | apply Kd.R_alloc | apply Kd.R_drewN | apply Kd.R_drew)); exact HQ123.out⟩
                    have n2_ : Aside0 ((w121.setCell ⟨go24, ((ji21) : Int).toNat, none⟩ (.int .u8 (Go.bits .xor .u8 (rd y397 (ji21)) ((a1_1) % 256)))).heap[gb387]? = some (.cells #[.int .i64 a0_0, .int .i64 a0_1, .int .i64 a0_2] 23 (0, 0))) := ⟨by (with_reducible repeat (first | refine blk_drewN ?_ _ | refine blk_drew ?_ | refine blk_alloc ?_ _)); refine blk_far ?_ (by have h_ := Kd.R_ne HO399.out BK387.out (by decide); intro e_; exact h_ (by rw [e_]; rfl)) _; (with_reducible repeat (first | refine blk_drewN ?_ _ | refine blk_drew ?_ | refine blk_alloc ?_ _)); exact BK387.out⟩
                    have n3_ : Aside0 ((w121.setCell ⟨go24, ((ji21) : Int).toNat, none⟩ (.int .u8 (Go.bits .xor .u8 (rd y397 (ji21)) ((a1_1) % 256)))).heap[gb388]? = some (.cells #[.int .i64 a1_0, .int .i64 a1_1] 45 (0, 0))) := ⟨by (with_reducible repeat (first | refine blk_drewN ?_ _ | refine blk_drew ?_ | refine blk_alloc ?_ _)); refine blk_far ?_ (by have h_ := Kd.R_ne HO399.out BK388.out (by decide); intro e_; exact h_ (by rw [e_]; rfl)) _; (with_reducible repeat (first | refine blk_drewN ?_ _ | refine blk_drew ?_ | refine blk_alloc ?_ _)); exact BK388.out⟩
                    have n4_ : Aside0 (Below w.heap.size w (w121.setCell ⟨go24, ((ji21) : Int).toNat, none⟩ (.int .u8 (Go.bits .xor .u8 (rd y397 (ji21)) ((a1_1) % 256))))) := ⟨by repeat (first | (with_reducible first | exact HB.out | apply below_alloc | apply pw_below_drewN | apply below_drew1 | refine below_set ?_ GB24.out | refine below_set ?_ GE387.out | refine below_set ?_ GE388.out) | exact HB.out)⟩
                    (try clear HO_6)
                    (try clear HO399)
                    (try clear BK387)
                    (try clear BK388)
                    (try clear HB)
                    (try simp only [IntKind.wrap_u8, IntKind.wrap_u32])
                    generalize (w121.setCell ⟨go24, ((ji21) : Int).toNat, none⟩ (.int .u8 (Go.bits .xor .u8 (rd y397 (ji21)) ((a1_1) % 256)))) = w124 at n0_ n1_ n2_ n3_ n4_ ⊢
                    have HO_6 := n0_
                    have HO399 := n1_
                    have BK387 := n2_
                    have BK388 := n3_
                    have HB := n4_
                    clear n0_ n1_ n2_ n3_ n4_
                    try go_wp2_with (first | ((with_reducible refine gate_callee (f := 28) rfl ?_); refine goesL_ (some 54) rfl rfl Try.func28 (by kernel_rfl) rfl #[.slice (some ⟨go24, 0, none⟩) y401.length co122] rfl (by (try simp only [List.map_toArray, List.map_cons, List.map_nil]); first | done | (rw [show y401.length = y397.length from (Kd.R_reads' HO399.out).1.symm] <;> rfl) | rfl | (simp only [List.length_drop, List.length_take]; rfl)) ?_; (with_reducible refine (mark_Read.calls kj4 _ _ y401 t402 t403 t404 t405 _ ?side1 ?side2 A25.out).mono ?_); (case side1 => repeat (first | exact (Kd.R_reads' HO399.out).2.2 | (with_reducible refine Kd.C_alloc ?_ _) | (with_reducible refine Kd.C_drewN ?_ _) | (with_reducible refine Kd.C_drew ?_))); (case side2 => rw [show y401.length = y397.length from (Kd.R_reads' HO399.out).1.symm]; exact (Kd.R_reads' HO399.out).2.1); rintro e w125 ⟨rfl, hb⟩; refine ⟨_, rfl, ?_⟩; have n0_ := Aside0.mk (Kd.R_below (by (with_reducible repeat (first | apply Kd.R_alloc | apply Kd.R_drewN | apply Kd.R_drew)); exact HO_6.out) hb); have n1_ := Aside0.mk (Kd.R_below (by (with_reducible repeat (first | apply Kd.R_alloc | apply Kd.R_drewN | apply Kd.R_drew)); exact HO399.out) hb); have n2_ := Aside0.mk (blk_below (g := gb387) (o := .cells #[.int .i64 a0_0, .int .i64 a0_1, .int .i64 a0_2] 23 (0, 0)) (by (with_reducible repeat (first | refine blk_drewN ?_ _ | refine blk_drew ?_ | refine blk_alloc ?_ _)); exact BK387.out) hb); have n3_ := Aside0.mk (blk_below (g := gb388) (o := .cells #[.int .i64 a1_0, .int .i64 a1_1] 45 (0, 0)) (by (with_reducible repeat (first | refine blk_drewN ?_ _ | refine blk_drew ?_ | refine blk_alloc ?_ _)); exact BK388.out) hb); have n4_ := Aside0.mk (below_step (by repeat (first | (with_reducible first | exact HB.out | apply below_alloc | apply pw_below_drewN | apply below_drew1 | refine below_set ?_ GE387.out | refine below_set ?_ GE388.out) | exact HB.out)) hb); clear HO_6; clear HO399; clear BK387; clear BK388; clear HB; have HO_6 := n0_; have HO399 := n1_; have BK387 := n2_; have BK388 := n3_; have HB := n4_; clear n0_ n1_ n2_ n3_ n4_; (try clear hb); (try clear hb2); (try clear hk); (try clear hi)) | ((with_reducible refine gate_dst (N := 9) rfl ?_); refine box_event ?hg (N := 9) ?hd (cs := #[.int .i64 0, .int .i64 0, .int .i64 0]) (t := 23) ?hr ?_; (case hd => rfl); (case hg => rfl); (case hr => first | (go_simp; done) | (go_simp; rfl)); intro gb406 hg w126 hbox hb; have n0_ := Aside0.mk (Kd.R_below (by (with_reducible repeat (first | apply Kd.R_alloc | apply Kd.R_drewN | apply Kd.R_drew)); exact HO_6.out) hb); have n1_ := Aside0.mk (Kd.R_below (by (with_reducible repeat (first | apply Kd.R_alloc | apply Kd.R_drewN | apply Kd.R_drew)); exact HO399.out) hb); have n2_ := Aside0.mk (blk_below (g := gb387) (o := .cells #[.int .i64 a0_0, .int .i64 a0_1, .int .i64 a0_2] 23 (0, 0)) (by (with_reducible repeat (first | refine blk_drewN ?_ _ | refine blk_drew ?_ | refine blk_alloc ?_ _)); exact BK387.out) hb); have n3_ := Aside0.mk (blk_below (g := gb388) (o := .cells #[.int .i64 a1_0, .int .i64 a1_1] 45 (0, 0)) (by (with_reducible repeat (first | refine blk_drewN ?_ _ | refine blk_drew ?_ | refine blk_alloc ?_ _)); exact BK388.out) hb); have n4_ := Aside0.mk (below_step (by repeat (first | (with_reducible first | exact HB.out | apply below_alloc | apply pw_below_drewN | apply below_drew1 | refine below_set ?_ GE387.out | refine below_set ?_ GE388.out) | exact HB.out)) hb); have n5_ := Aside0.mk (hbox); have n6_ := Aside0.mk ((by rw [hg]; exact (below_size (by repeat (first | (with_reducible first | exact HB.out | apply below_alloc | apply pw_below_drewN | apply below_drew1 | refine below_set ?_ GE387.out | refine below_set ?_ GE388.out) | exact HB.out))) : w.heap.size ≤ gb406)); have n7_ := Aside0.mk ((by rw [hg]; exact (below_size (by repeat (first | (with_reducible first | exact HB.out | apply below_alloc | apply pw_below_drewN | apply below_drew1 | refine below_set ?_ GE387.out | refine below_set ?_ GE388.out) | exact HB.out))) : w.heap.size ≤ gb406)); have n8_ := Aside0.mk ((by rw [hg]; exact Nat.ne_of_lt (blk_lt (g := gb387) (o := .cells #[.int .i64 a0_0, .int .i64 a0_1, .int .i64 a0_2] 23 (0, 0)) (by (with_reducible repeat (first | refine blk_drewN ?_ _ | refine blk_drew ?_ | refine blk_alloc ?_ _)); exact BK387.out)) : gb387 ≠ gb406)); have n9_ := Aside0.mk ((by rw [hg]; exact Nat.ne_of_gt (blk_lt (g := gb387) (o := .cells #[.int .i64 a0_0, .int .i64 a0_1, .int .i64 a0_2] 23 (0, 0)) (by (with_reducible repeat (first | refine blk_drewN ?_ _ | refine blk_drew ?_ | refine blk_alloc ?_ _)); exact BK387.out)) : gb406 ≠ gb387)); have n10_ := Aside0.mk ((by rw [hg]; exact Nat.ne_of_lt (blk_lt (g := gb388) (o := .cells #[.int .i64 a1_0, .int .i64 a1_1] 45 (0, 0)) (by (with_reducible repeat (first | refine blk_drewN ?_ _ | refine blk_drew ?_ | refine blk_alloc ?_ _)); exact BK388.out)) : gb388 ≠ gb406)); have n11_ := Aside0.mk ((by rw [hg]; exact Nat.ne_of_gt (blk_lt (g := gb388) (o := .cells #[.int .i64 a1_0, .int .i64 a1_1] 45 (0, 0)) (by (with_reducible repeat (first | refine blk_drewN ?_ _ | refine blk_drew ?_ | refine blk_alloc ?_ _)); exact BK388.out)) : gb406 ≠ gb388)); clear HO_6; clear HO399; clear BK387; clear BK388; clear HB; have HO_6 := n0_; have HO399 := n1_; have BK387 := n2_; have BK388 := n3_; have HB := n4_; have BK406 := n5_; have GW406 := n6_; have GE406 := n7_; have NB387_406 := n8_; have NB406_387 := n9_; have NB388_406 := n10_; have NB406_388 := n11_; clear n0_ n1_ n2_ n3_ n4_ n5_ n6_ n7_ n8_ n9_ n10_ n11_; clear hb hbox hg; have hnb127 := NB406_387.out; have hnc127 := NB387_406.out; have hnb128 := NB406_388.out; have hnc128 := NB388_406.out; have hcz129_0 : w126.cell? ⟨gb406, 0, none⟩ = some (.int .i64 0) := (blk_cell BK406.out 0).trans rfl; have hcz129_1 : w126.cell? ⟨gb406, 1, none⟩ = some (.int .i64 0) := (blk_cell BK406.out 1).trans rfl; have hcz129_2 : w126.cell? ⟨gb406, 2, none⟩ = some (.int .i64 0) := (blk_cell BK406.out 2).trans rfl; have hfz129_0 := blk_frozen BK406.out 0; have hfz129_1 := blk_frozen BK406.out 1; have hfz129_2 := blk_frozen BK406.out 2))
                    go_ret
                    exact ⟨by first | rfl | (simp [errW_none, errW_some] <;> rfl) | (simp only [← hji21]; first | rfl | (simp [errW_none, errW_some] <;> rfl)) | (simp [*, errW_none, errW_some] <;> rfl), by repeat (first | (with_reducible first | exact HB.out | apply below_alloc | apply pw_below_drewN | apply below_drew1 | refine below_set ?_ GE387.out | refine below_set ?_ GE388.out | refine below_set ?_ GE406.out) | exact HB.out)⟩
              · rw [if_neg c23] at H
                exact absurd H (by simp)
            · rw [if_neg c22] at H
              exact absurd H (by simp)
          · rw [if_neg c20] at H
            exact absurd H (by simp)
        · rw [if_neg c19] at H
          have c19b0 : ((t390.length : Int) == 16) = false := beq_eq_false_iff_ne.mpr c19
          have c19b1 : ((t390.length : Int) != 16) = true := bne_iff_ne.mpr c19
          obtain rfl := Option.some.inj H
          obtain ⟨Ao130, co130, eo130⟩ := Kd.R_slice HO_6.out
          subst eo130
          go_wp2
          go_ret
          exact ⟨by first | rfl | (simp [errW_none, errW_some] <;> rfl) | (simp [*, errW_none, errW_some] <;> rfl), by repeat (first | (with_reducible first | exact HB.out | apply below_alloc | apply pw_below_drewN | apply below_drew1 | refine below_set ?_ GE387.out | refine below_set ?_ GE388.out) | exact HB.out)⟩

/-- THE ONE PURE STATEMENT of strakelaw06_MarkTurned: yours. -/
def strakelaw06_MarkTurned.Pure : Prop := ∀ (a0_0 : Int) (a0_1 : Int) (a0_2 : Int) (a1_0 : Int) (a1_1 : Int), (Lit.int .i64 a0_0).wf = true → (Lit.int .i64 a0_1).wf = true → (Lit.int .i64 a0_2).wf = true → (Lit.int .i64 a1_0).wf = true → (Lit.int .i64 a1_1).wf = true → ∃ k, strakelaw06_MarkTurned.f k a0_0 a0_1 a0_2 a1_0 a1_1 = some true
theorem strakelaw06_MarkTurned.walk (P : strakelaw06_MarkTurned.Pure) (a0_0 : Int) (a0_1 : Int) (a0_2 : Int) (a1_0 : Int) (a1_1 : Int) (w : World) (w0_0 : (Lit.int .i64 a0_0).wf = true) (w0_1 : (Lit.int .i64 a0_1).wf = true) (w0_2 : (Lit.int .i64 a0_2).wf = true) (w1_0 : (Lit.int .i64 a1_0).wf = true) (w1_1 : (Lit.int .i64 a1_1).wf = true) :
    Calls Try.prog 10 #[.agg #[.int .i64 a0_0, .int .i64 a0_1, .int .i64 a0_2], .agg #[.int .i64 a1_0, .int .i64 a1_1]] w fun e w' => e = .returned (.bool true) ∧ Below w.heap.size w w' := by
  obtain ⟨k, h⟩ := P a0_0 a0_1 a0_2 a1_0 a1_1 w0_0 w0_1 w0_2 w1_0 w1_1
  refine (strakelaw06_MarkTurned.calls k a0_0 a0_1 a0_2 a1_0 a1_1 true w h).mono ?_
  rintro e w' ⟨rfl, hd⟩
  exact ⟨rfl, hd⟩

end Go.Proofs.Ytjjohdeknahkmaa.X
