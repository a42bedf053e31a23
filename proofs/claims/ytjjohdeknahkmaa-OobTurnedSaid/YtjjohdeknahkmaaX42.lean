-- laid by wip/tools/xprint.py (our own changes over the printer)
import Derived.Test.YtjjohdeknahkmaaX0
import Derived.Test.YtjjohdeknahkmaaX2
import Derived.Test.YtjjohdeknahkmaaX19
import Derived.Test.YtjjohdeknahkmaaX20
import Derived.Test.YtjjohdeknahkmaaX38
namespace Go.Proofs.Ytjjohdeknahkmaa.X
open Go.RowKit Go.Proofs.YtjjohdeknahkmaaW.PrintWords Go.Proofs.YtjjohdeknahkmaaW.PrintLast Go.Proofs.YtjjohdeknahkmaaW.PrintMore
attribute [local go_sem] max2_int min2_int max_two min_two max_three min_three max_four min_four   -- for this text's walks alone
set_option linter.unusedVariables false
set_option linter.unusedSimpArgs false

attribute [local go_sem high] eqA31
/-! ### strakelaw05_OobTurned: function 13 -/
def strakelaw05_OobTurned.j0 : Nat → List Int → Bool → List Int → Int → Bool → Int → Int → Option (Bool)
  | 0, _, _, _, _, _, _, _ => none
  | k + 1, x1, x7, x8, x10, x35, x466000, x466001 => if x35 = true then (some x7) else (if (x8.length : Int) = 17 then (if (x1.length : Int) = 16 then ((some (([] : List Int) : List Int)).bind fun y471 => (if y471.length + x8.length < 140737488355328 then ((some (y471 ++ x8 : List Int)).bind fun y474 => (if y474.length + x1.length < 140737488355328 then ((some (y474 ++ x1 : List Int)).bind fun y477 => (if 0 ≤ (Int.tmod x466000 33) then (if (Int.tmod x466000 33) < (y477.length : Int) then ((some (y477.set ((Int.tmod x466000 33) : Int).toNat (Go.bits .xor .u8 (rd y477 (Int.tmod x466000 33)) x10) : List Int)).bind fun y481 => (if 17 ≤ (y477.length : Int) then ((oob_Unpack.f k (y481.take 17) (y481.drop 17)).bind fun bt490 => (if x7 = true then (if (bt490.1 == 0 && (bt490.2.1 == 0 && (bt490.2.2.1 == 0))) = true then (if bt490.2.2.2 = 3 then (some true) else (some (bt490.2.2.2 == 4))) else (some false)) else (some false))) else (none))) else (none)) else (none))) else (none))) else (none))) else (some false)) else (some false))
def strakelaw05_OobTurned.f (k : Nat) (a0_0 : Int) (a0_1 : Int) (a0_2 : Int) (l1 : List Int) (a2_0 : Int) (a2_1 : Int) : Option (Bool) := (strakelaw05_awake.f k).bind fun t466 => ((oob_Pack.f k a0_0 a0_1 a0_2 l1).bind fun bt467 => (if bt467.2 = 0 then (if a2_0 < 0 then (strakelaw05_OobTurned.j0 k l1 t466 bt467.1 ((a2_1) % 256) true a2_0 a2_1) else (strakelaw05_OobTurned.j0 k l1 t466 bt467.1 ((a2_1) % 256) (((a2_1) % 256) == 0) a2_0 a2_1)) else (strakelaw05_OobTurned.j0 k l1 t466 bt467.1 ((a2_1) % 256) true a2_0 a2_1)))
theorem strakelaw05_OobTurned.mono_l : ∀ k, (∀ y0 y1 y2 y3 y4 y5 y6, LeO (strakelaw05_OobTurned.j0 k y0 y1 y2 y3 y4 y5 y6) (strakelaw05_OobTurned.j0 (k + 1) y0 y1 y2 y3 y4 y5 y6))
  | 0 => fun _ _ _ _ _ _ _ r h => by simp [strakelaw05_OobTurned.j0] at h
  | k + 1 => by
    have ih0 := strakelaw05_OobTurned.mono_l k
    · intro y0 y1 y2 y3 y4 y5 y6
      unfold strakelaw05_OobTurned.j0
      repeat' first
      | (with_reducible exact ih0 _ _ _ _ _ _ _)
      | (with_reducible exact oob_Pack.mono _ _ _ _ _)
      | (with_reducible exact oob_Unpack.mono _ _ _)
      | (with_reducible exact strakelaw05_awake.mono _)
      | (with_reducible exact LeO.refl _)
      | (with_reducible exact LeO.none _)
      | (with_reducible refine LeO.ite ?_ ?_)
      | (with_reducible refine LeO.bind ?_ (fun _ => ?_))
      | exact ih0 _ _ _ _ _ _ _
      | exact oob_Pack.mono _ _ _ _ _
      | exact oob_Unpack.mono _ _ _
      | exact strakelaw05_awake.mono _
      | exact LeO.none _
      | refine LeO.ite ?_ ?_
      | refine LeO.bind ?_ (fun _ => ?_)
theorem strakelaw05_OobTurned.mono : ∀ a0 a1 a2 a3 a4 a5 k, LeO (strakelaw05_OobTurned.f k a0 a1 a2 a3 a4 a5) (strakelaw05_OobTurned.f (k + 1) a0 a1 a2 a3 a4 a5) := by
  intro a0 a1 a2 a3 a4 a5 k
  have ih0 := strakelaw05_OobTurned.mono_l k
  unfold strakelaw05_OobTurned.f
  repeat' first
      | (with_reducible exact ih0 _ _ _ _ _ _ _)
      | (with_reducible exact oob_Pack.mono _ _ _ _ _)
      | (with_reducible exact oob_Unpack.mono _ _ _)
      | (with_reducible exact strakelaw05_awake.mono _)
      | (with_reducible exact LeO.refl _)
      | (with_reducible exact LeO.none _)
      | (with_reducible refine LeO.ite ?_ ?_)
      | (with_reducible refine LeO.bind ?_ (fun _ => ?_))
      | exact ih0 _ _ _ _ _ _ _
      | exact oob_Pack.mono _ _ _ _ _
      | exact oob_Unpack.mono _ _ _
      | exact strakelaw05_awake.mono _
      | exact LeO.none _
      | refine LeO.ite ?_ ?_
      | refine LeO.bind ?_ (fun _ => ?_)
def strakelaw05_OobTurned.T11 : Bool × List (List Nat × List Nat) := (true, [([], []), ([0], [0]), ([], []), ([2], [2]), ([1, 3], [1, 3]), ([4], [4]), ([5], [5]), ([5], [5]), ([], []), ([8, 6, 4, 0, 1, 2, 3, 4, 5, 6, 8], [6, 8]), ([7, 9, 0, 1, 2, 3, 4, 5, 6, 7, 8, 9], [7])])
def strakelaw05_OobTurned.B11 : List Nat := [0, 1, 0, 4, 15, 31, 63, 63, 0, 383, 1023]
theorem strakelaw05_OobTurned.tab11 : rtab .any (opsOf Try.f13 11) = strakelaw05_OobTurned.T11 := by kernel_rfl
theorem strakelaw05_OobTurned.bits11 : waitsOk strakelaw05_OobTurned.T11.2 strakelaw05_OobTurned.B11 = true := by kernel_rfl
set_option maxHeartbeats 8000000 in
set_option maxRecDepth 100000 in
theorem strakelaw05_OobTurned.calls (k : Nat) (a0_0 : Int) (a0_1 : Int) (a0_2 : Int) (A1 : Option Addr) (c1 : Nat) (l1 : List Int) (a2_0 : Int) (a2_1 : Int) (r : Bool) (w : World) (hr1 : Kd.C (Kd.int .u8) w A1 l1.length l1) (hc1 : l1.length ≤ c1) (h : strakelaw05_OobTurned.f k a0_0 a0_1 a0_2 l1 a2_0 a2_1 = some r) :
    Calls Try.prog 13 #[.agg #[.int .i64 a0_0, .int .i64 a0_1, .int .i64 a0_2], .slice A1 l1.length c1, .agg #[.int .i64 a2_0, .int .i64 a2_1]] w fun e w' => e = .returned (.bool r) ∧ Below w.heap.size w w' := by
  have hu31 := Try.underlying31
  have hu45 := Try.underlying45
  have HR1 := Aside0.mk hr1
  have HC1 := Aside0.mk hc1
  clear hr1 hc1
  have HB := Aside0.mk (Below.refl w.heap.size w)
  have H : ((strakelaw05_awake.f k).bind fun t466 => ((oob_Pack.f k a0_0 a0_1 a0_2 l1).bind fun bt467 => (if bt467.2 = 0 then (if a2_0 < 0 then (strakelaw05_OobTurned.j0 k l1 t466 bt467.1 ((a2_1) % 256) true a2_0 a2_1) else (strakelaw05_OobTurned.j0 k l1 t466 bt467.1 ((a2_1) % 256) (((a2_1) % 256) == 0) a2_0 a2_1)) else (strakelaw05_OobTurned.j0 k l1 t466 bt467.1 ((a2_1) % 256) true a2_0 a2_1)))) = some r := h
  clear h
  replace H := Option.bind_eq_some_iff.mp H
  obtain ⟨t466, A40, H⟩ := H
  replace H : ((oob_Pack.f k a0_0 a0_1 a0_2 l1).bind fun bt467 => (if bt467.2 = 0 then (if a2_0 < 0 then (strakelaw05_OobTurned.j0 k l1 t466 bt467.1 ((a2_1) % 256) true a2_0 a2_1) else (strakelaw05_OobTurned.j0 k l1 t466 bt467.1 ((a2_1) % 256) (((a2_1) % 256) == 0) a2_0 a2_1)) else (strakelaw05_OobTurned.j0 k l1 t466 bt467.1 ((a2_1) % 256) true a2_0 a2_1))) = some r := H
  have A4 := Aside0.mk A40
  clear A40
  replace H := Option.bind_eq_some_iff.mp H
  obtain ⟨⟨t467, t470⟩, A50, H⟩ := H
  replace H : (if t470 = 0 then (if a2_0 < 0 then (strakelaw05_OobTurned.j0 k l1 t466 t467 ((a2_1) % 256) true a2_0 a2_1) else (strakelaw05_OobTurned.j0 k l1 t466 t467 ((a2_1) % 256) (((a2_1) % 256) == 0) a2_0 a2_1)) else (strakelaw05_OobTurned.j0 k l1 t466 t467 ((a2_1) % 256) true a2_0 a2_1)) = some r := H
  have A5 := Aside0.mk A50
  clear A50
  have HC6 := Aside0.mk H
  clear H
  go_enter Try.func13, Try.ntmps13
  go_upto_region 4 with (first | ((with_reducible refine gate_dst (N := 3) rfl ?_); (try (refine gate_guard (by rfl) ?_; dsimp only)); refine box_event ?hg (N := 3) ?hd (cs := #[.int .i64 a0_0, .int .i64 a0_1, .int .i64 a0_2]) (t := 31) ?hr ?_; (case hd => rfl); (case hg => rfl); (case hr => first | (go_simp; done) | (go_simp; rfl)); intro gb464 hg w7 hbox hb; have n0_ := Aside0.mk (below_step (by repeat (first | (with_reducible first | exact HB.out | apply below_alloc | apply pw_below_drewN | apply below_drew1) | exact HB.out)) hb); have n1_ := Aside0.mk (hbox); have n2_ := Aside0.mk ((by rw [hg]; exact (below_size (by repeat (first | (with_reducible first | exact HB.out | apply below_alloc | apply pw_below_drewN | apply below_drew1) | exact HB.out))) : w.heap.size ≤ gb464)); have n3_ := Aside0.mk ((by rw [hg]; exact (below_size (by repeat (first | (with_reducible first | exact HB.out | apply below_alloc | apply pw_below_drewN | apply below_drew1) | exact HB.out))) : w.heap.size ≤ gb464)); clear HB; have HB := n0_; have BK464 := n1_; have GW464 := n2_; have GE464 := n3_; clear n0_ n1_ n2_ n3_; clear hb hbox hg) | ((with_reducible refine gate_dst (N := 5) rfl ?_); (try (refine gate_guard (by rfl) ?_; dsimp only)); refine box_event ?hg (N := 5) ?hd (cs := #[.int .i64 a2_0, .int .i64 a2_1]) (t := 45) ?hr ?_; (case hd => rfl); (case hg => rfl); (case hr => first | (go_simp; done) | (go_simp; rfl)); intro gb465 hg w8 hbox hb; have n0_ := Aside0.mk (blk_below (g := gb464) (o := .cells #[.int .i64 a0_0, .int .i64 a0_1, .int .i64 a0_2] 31 (0, 0)) (by (with_reducible repeat (first | refine blk_drewN ?_ _ | refine blk_drew ?_ | refine blk_alloc ?_ _)); exact BK464.out) hb); have n1_ := Aside0.mk (below_step (by repeat (first | (with_reducible first | exact HB.out | apply below_alloc | apply pw_below_drewN | apply below_drew1 | refine below_set ?_ GE464.out) | exact HB.out)) hb); have n2_ := Aside0.mk (hbox); have n3_ := Aside0.mk ((by rw [hg]; exact (below_size (by repeat (first | (with_reducible first | exact HB.out | apply below_alloc | apply pw_below_drewN | apply below_drew1 | refine below_set ?_ GE464.out) | exact HB.out))) : w.heap.size ≤ gb465)); have n4_ := Aside0.mk ((by rw [hg]; exact (below_size (by repeat (first | (with_reducible first | exact HB.out | apply below_alloc | apply pw_below_drewN | apply below_drew1 | refine below_set ?_ GE464.out) | exact HB.out))) : w.heap.size ≤ gb465)); have n5_ := Aside0.mk ((by rw [hg]; exact Nat.ne_of_lt (blk_lt (g := gb464) (o := .cells #[.int .i64 a0_0, .int .i64 a0_1, .int .i64 a0_2] 31 (0, 0)) (by (with_reducible repeat (first | refine blk_drewN ?_ _ | refine blk_drew ?_ | refine blk_alloc ?_ _)); exact BK464.out)) : gb464 ≠ gb465)); have n6_ := Aside0.mk ((by rw [hg]; exact Nat.ne_of_gt (blk_lt (g := gb464) (o := .cells #[.int .i64 a0_0, .int .i64 a0_1, .int .i64 a0_2] 31 (0, 0)) (by (with_reducible repeat (first | refine blk_drewN ?_ _ | refine blk_drew ?_ | refine blk_alloc ?_ _)); exact BK464.out)) : gb465 ≠ gb464)); clear BK464; clear HB; have BK464 := n0_; have HB := n1_; have BK465 := n2_; have GW465 := n3_; have GE465 := n4_; have NB464_465 := n5_; have NB465_464 := n6_; clear n0_ n1_ n2_ n3_ n4_ n5_ n6_; clear hb hbox hg) | ((with_reducible refine gate_callee (f := 22) rfl ?_); refine goesL_ (some 15) rfl rfl Try.func22 (by kernel_rfl) rfl #[] rfl (by (try simp only [List.map_toArray, List.map_cons, List.map_nil]); first | done | rfl | (simp only [List.length_drop, List.length_take]; rfl)) ?_; (with_reducible refine (strakelaw05_awake.calls k  t466 _ A4.out).mono ?_); rintro e w9 ⟨rfl, hb⟩; refine ⟨_, rfl, ?_⟩; have n0_ := Aside0.mk (blk_below (g := gb464) (o := .cells #[.int .i64 a0_0, .int .i64 a0_1, .int .i64 a0_2] 31 (0, 0)) (by (with_reducible repeat (first | refine blk_drewN ?_ _ | refine blk_drew ?_ | refine blk_alloc ?_ _)); exact BK464.out) hb); have n1_ := Aside0.mk (blk_below (g := gb465) (o := .cells #[.int .i64 a2_0, .int .i64 a2_1] 45 (0, 0)) (by (with_reducible repeat (first | refine blk_drewN ?_ _ | refine blk_drew ?_ | refine blk_alloc ?_ _)); exact BK465.out) hb); have n2_ := Aside0.mk (below_step (by repeat (first | (with_reducible first | exact HB.out | apply below_alloc | apply pw_below_drewN | apply below_drew1 | refine below_set ?_ GE464.out | refine below_set ?_ GE465.out) | exact HB.out)) hb); clear BK464; clear BK465; clear HB; have BK464 := n0_; have BK465 := n1_; have HB := n2_; clear n0_ n1_ n2_; (try clear hb); (try clear hb2); (try clear hk); (try clear hi); have hnb10 := NB464_465.out; have hnc10 := NB465_464.out; have hcz11_0 : w9.cell? ⟨gb464, 0, none⟩ = some (.int .i64 a0_0) := (blk_cell BK464.out 0).trans rfl; have hcz11_1 : w9.cell? ⟨gb464, 1, none⟩ = some (.int .i64 a0_1) := (blk_cell BK464.out 1).trans rfl; have hcz11_2 : w9.cell? ⟨gb464, 2, none⟩ = some (.int .i64 a0_2) := (blk_cell BK464.out 2).trans rfl; have hfz11_0 := blk_frozen BK464.out 0; have hfz11_1 := blk_frozen BK464.out 1; have hfz11_2 := blk_frozen BK464.out 2) | ((with_reducible refine gate_callee (f := 23) rfl ?_); refine goesL_ (some 19) rfl rfl Try.func23 (by kernel_rfl) rfl #[.agg #[.int .i64 a0_0, .int .i64 a0_1, .int .i64 a0_2], .slice A1 l1.length c1] rfl (by (try simp only [List.map_toArray, List.map_cons, List.map_nil]); first | done | rfl | (simp only [List.length_drop, List.length_take]; rfl)) ?_; (with_reducible refine (oob_Pack.calls k a0_0 a0_1 a0_2 _ _ l1 t467 t470 _ ?side1 ?side2 A5.out).mono ?_); (case side1 => repeat (first | exact (Kd.C_below HR1.out HB.out) | (with_reducible refine Kd.C_alloc ?_ _) | (with_reducible refine Kd.C_drewN ?_ _) | (with_reducible refine Kd.C_drew ?_))); (case side2 => exact HC1.out); rintro e w12 ⟨v468, rfl, ho0, hb⟩; refine ⟨_, rfl, ?_⟩; have n0_ := Aside0.mk (Kd.R_lower ho0 (below_size (by repeat (first | (with_reducible first | exact HB.out | apply below_alloc | apply pw_below_drewN | apply below_drew1 | refine below_set ?_ GE464.out | refine below_set ?_ GE465.out) | exact HB.out)))); have n1_ := Aside0.mk (blk_below (g := gb464) (o := .cells #[.int .i64 a0_0, .int .i64 a0_1, .int .i64 a0_2] 31 (0, 0)) (by (with_reducible repeat (first | refine blk_drewN ?_ _ | refine blk_drew ?_ | refine blk_alloc ?_ _)); exact BK464.out) hb); have n2_ := Aside0.mk (blk_below (g := gb465) (o := .cells #[.int .i64 a2_0, .int .i64 a2_1] 45 (0, 0)) (by (with_reducible repeat (first | refine blk_drewN ?_ _ | refine blk_drew ?_ | refine blk_alloc ?_ _)); exact BK465.out) hb); have n3_ := Aside0.mk (below_step (by repeat (first | (with_reducible first | exact HB.out | apply below_alloc | apply pw_below_drewN | apply below_drew1 | refine below_set ?_ GE464.out | refine below_set ?_ GE465.out) | exact HB.out)) hb); clear BK464; clear BK465; clear HB; have HO469 := n0_; have BK464 := n1_; have BK465 := n2_; have HB := n3_; clear n0_ n1_ n2_ n3_; (try clear hb); (try clear hb2); (try clear hk); (try clear hi); (try clear ho0); have hcz13_0 : w12.cell? ⟨gb465, 0, none⟩ = some (.int .i64 a2_0) := (blk_cell BK465.out 0).trans rfl; have hcz13_1 : w12.cell? ⟨gb465, 1, none⟩ = some (.int .i64 a2_1) := (blk_cell BK465.out 1).trans rfl; have hfz13_0 := blk_frozen BK465.out 0; have hfz13_1 := blk_frozen BK465.out 1))
  (try simp only [Act.put, List.setIfInBounds_toArray, List.set_cons_zero, List.set_cons_succ])
  go_cut [35] (fun v35 wc => ∃ (kq : Nat) (x35_5 : Bool), v35 = .bool x35_5 ∧ Aside0 (strakelaw05_OobTurned.j0 kq l1 t466 t467 ((a2_1) % 256) x35_5 a2_0 a2_1 = some r) ∧ Aside0 (kq ≤ k) ∧ Aside0 (Kd.R (Kd.int .u8) 5 wc w.heap.size (fun _ => True) v468 t467) ∧ Aside0 (wc.heap[gb464]? = some (.cells #[.int .i64 a0_0, .int .i64 a0_1, .int .i64 a0_2] 31 (0, 0))) ∧ Aside0 (wc.heap[gb465]? = some (.cells #[.int .i64 a2_0, .int .i64 a2_1] 45 (0, 0))) ∧ Aside0 (Below w.heap.size w wc))
  case first =>
    have H := HC6.out
    clear HC6
    by_cases c14 : t470 = 0
    · rw [if_pos c14] at H
      have c14b0 : (t470 == 0) = true := beq_iff_eq.mpr c14
      have c14b1 : (t470 != 0) = false := bne_eq_false_iff_eq.mpr c14
      clear c14
      (first | rw [c14b0] | (simp only [i64_w, i32_w]; rw [c14b0]) | skip)
      by_cases c15 : a2_0 < 0
      · rw [if_pos c15] at H
        have c15b0 : decide (a2_0 < 0) = true := decide_eq_true c15
        clear c15
        have H' := Aside0.mk H
        clear H
        have hnb16 := NB465_464.out
        have hnc16 := NB464_465.out
        have hcz17_0 : w12.cell? ⟨gb465, 0, none⟩ = some (.int .i64 a2_0) := (blk_cell BK465.out 0).trans rfl
        have hcz17_1 : w12.cell? ⟨gb465, 1, none⟩ = some (.int .i64 a2_1) := (blk_cell BK465.out 1).trans rfl
        have hfz17_0 := blk_frozen BK465.out 0
        have hfz17_1 := blk_frozen BK465.out 1
        go_wp2
        go_meet
        case rel => exact ⟨_, (true), (by first | rfl | (simp; done) | (simp [*]; done)), H', ⟨by first | omega | exact Nat.le_refl _⟩, ⟨by (with_reducible repeat (first | apply Kd.R_alloc | apply Kd.R_drewN | apply Kd.R_drew)); exact HO469.out⟩, ⟨by (with_reducible repeat (first | refine blk_drewN ?_ _ | refine blk_drew ?_ | refine blk_alloc ?_ _)); exact BK464.out⟩, ⟨by (with_reducible repeat (first | refine blk_drewN ?_ _ | refine blk_drew ?_ | refine blk_alloc ?_ _)); exact BK465.out⟩, ⟨by repeat (first | (with_reducible first | exact HB.out | apply below_alloc | apply pw_below_drewN | apply below_drew1 | refine below_set ?_ GE464.out | refine below_set ?_ GE465.out) | exact HB.out)⟩⟩
      · rw [if_neg c15] at H
        have c15b0 : decide (a2_0 < 0) = false := decide_eq_false c15
        clear c15
        have H' := Aside0.mk H
        clear H
        have hnb18 := NB465_464.out
        have hnc18 := NB464_465.out
        have hcz19_0 : w12.cell? ⟨gb465, 0, none⟩ = some (.int .i64 a2_0) := (blk_cell BK465.out 0).trans rfl
        have hcz19_1 : w12.cell? ⟨gb465, 1, none⟩ = some (.int .i64 a2_1) := (blk_cell BK465.out 1).trans rfl
        have hfz19_0 := blk_frozen BK465.out 0
        have hfz19_1 := blk_frozen BK465.out 1
        go_wp2
        go_meet
        case rel => exact ⟨_, ((((a2_1) % 256) == 0)), (by first | rfl | (simp; done) | (simp [*]; done)), H', ⟨by first | omega | exact Nat.le_refl _⟩, ⟨by (with_reducible repeat (first | apply Kd.R_alloc | apply Kd.R_drewN | apply Kd.R_drew)); exact HO469.out⟩, ⟨by (with_reducible repeat (first | refine blk_drewN ?_ _ | refine blk_drew ?_ | refine blk_alloc ?_ _)); exact BK464.out⟩, ⟨by (with_reducible repeat (first | refine blk_drewN ?_ _ | refine blk_drew ?_ | refine blk_alloc ?_ _)); exact BK465.out⟩, ⟨by repeat (first | (with_reducible first | exact HB.out | apply below_alloc | apply pw_below_drewN | apply below_drew1 | refine below_set ?_ GE464.out | refine below_set ?_ GE465.out) | exact HB.out)⟩⟩
    · rw [if_neg c14] at H
      have c14b0 : (t470 == 0) = false := beq_eq_false_iff_ne.mpr c14
      have c14b1 : (t470 != 0) = true := bne_iff_ne.mpr c14
      (first | rw [c14b0] | (simp only [i64_w, i32_w]; rw [c14b0]) | skip)
      have H' := Aside0.mk H
      clear H
      go_wp2
      go_meet
      case rel => exact ⟨_, (true), (by first | rfl | (simp; done) | (simp [*]; done)), H', ⟨by first | omega | exact Nat.le_refl _⟩, ⟨by (with_reducible repeat (first | apply Kd.R_alloc | apply Kd.R_drewN | apply Kd.R_drew)); exact HO469.out⟩, ⟨by (with_reducible repeat (first | refine blk_drewN ?_ _ | refine blk_drew ?_ | refine blk_alloc ?_ _)); exact BK464.out⟩, ⟨by (with_reducible repeat (first | refine blk_drewN ?_ _ | refine blk_drew ?_ | refine blk_alloc ?_ _)); exact BK465.out⟩, ⟨by repeat (first | (with_reducible first | exact HB.out | apply below_alloc | apply pw_below_drewN | apply below_drew1 | refine below_set ?_ GE464.out | refine below_set ?_ GE465.out) | exact HB.out)⟩⟩
  case rest =>
    clear HC6
    try clear c1
    try clear c2
    try clear p2
    try clear c10
    try clear c13
    try clear c14
    try clear c14b0
    try clear c14b1
    try clear c15
    try clear c15b0
    try clear c16
    try clear c18
    try clear hcz11_0
    try clear hcz11_1
    try clear hcz11_2
    try clear hcz13_0
    try clear hcz13_1
    try clear hcz17_0
    try clear hcz17_1
    try clear hcz19_0
    try clear hcz19_1
    try clear hfz11_0
    try clear hfz11_1
    try clear hfz11_2
    try clear hfz13_0
    try clear hfz13_1
    try clear hfz17_0
    try clear hfz17_1
    try clear hfz19_0
    try clear hfz19_1
    obtain ⟨kq, x35_5, rfl, HA, HJ5, HO_8, BK464, BK465, HB⟩ := hcut
    cases kq with
    | zero => exact absurd HA.out (by simp [strakelaw05_OobTurned.j0])
    | succ kj5 =>
      have H := HA.out
      clear HA
      simp only [strakelaw05_OobTurned.j0] at H
      by_cases c20 : x35_5 = true
      · subst c20
        have H1 : (some t466) = some r := by rw [if_pos rfl] at H; exact H
        clear H
        have H := H1
        clear H1
        obtain rfl := Option.some.inj H
        go_wp2
        go_ret
        exact ⟨by first | rfl | (simp [errW_none, errW_some] <;> rfl) | (simp [*, errW_none, errW_some] <;> rfl), by repeat (first | (with_reducible first | exact HB.out | apply below_alloc | apply pw_below_drewN | apply below_drew1 | refine below_set ?_ GE464.out | refine below_set ?_ GE465.out) | exact HB.out)⟩
      · replace c20 := Bool.eq_false_iff.mpr c20
        subst c20
        have H1 : (if (t467.length : Int) = 17 then (if (l1.length : Int) = 16 then ((some (([] : List Int) : List Int)).bind fun y471 => (if y471.length + t467.length < 140737488355328 then ((some (y471 ++ t467 : List Int)).bind fun y474 => (if y474.length + l1.length < 140737488355328 then ((some (y474 ++ l1 : List Int)).bind fun y477 => (if 0 ≤ (Int.tmod a2_0 33) then (if (Int.tmod a2_0 33) < (y477.length : Int) then ((some (y477.set ((Int.tmod a2_0 33) : Int).toNat (Go.bits .xor .u8 (rd y477 (Int.tmod a2_0 33)) ((a2_1) % 256)) : List Int)).bind fun y481 => (if 17 ≤ (y477.length : Int) then ((oob_Unpack.f kj5 (y481.take 17) (y481.drop 17)).bind fun bt490 => (if t466 = true then (if (bt490.1 == 0 && (bt490.2.1 == 0 && (bt490.2.2.1 == 0))) = true then (if bt490.2.2.2 = 3 then (some true) else (some (bt490.2.2.2 == 4))) else (some false)) else (some false))) else (none))) else (none)) else (none))) else (none))) else (none))) else (some false)) else (some false)) = some r := by rw [if_neg (show ¬ (false = true) by decide)] at H; exact H
        clear H
        have H := H1
        clear H1
        by_cases c21 : (t467.length : Int) = 17
        · rw [if_pos c21] at H
          have c21b0 : ((t467.length : Int) == 17) = true := beq_iff_eq.mpr c21
          have c21b1 : ((t467.length : Int) != 17) = false := bne_eq_false_iff_eq.mpr c21
          clear c21
          by_cases c22 : (l1.length : Int) = 16
          · rw [if_pos c22] at H
            have c22b0 : ((l1.length : Int) == 16) = true := beq_iff_eq.mpr c22
            have c22b1 : ((l1.length : Int) != 16) = false := bne_eq_false_iff_eq.mpr c22
            clear c22
            obtain ⟨y471, hy471⟩ : ∃ y_ : List Int, y_ = (([] : List Int)) := ⟨_, rfl⟩
            replace H : (if y471.length + t467.length < 140737488355328 then ((some (y471 ++ t467 : List Int)).bind fun y474 => (if y474.length + l1.length < 140737488355328 then ((some (y474 ++ l1 : List Int)).bind fun y477 => (if 0 ≤ (Int.tmod a2_0 33) then (if (Int.tmod a2_0 33) < (y477.length : Int) then ((some (y477.set ((Int.tmod a2_0 33) : Int).toNat (Go.bits .xor .u8 (rd y477 (Int.tmod a2_0 33)) ((a2_1) % 256)) : List Int)).bind fun y481 => (if 17 ≤ (y477.length : Int) then ((oob_Unpack.f kj5 (y481.take 17) (y481.drop 17)).bind fun bt490 => (if t466 = true then (if (bt490.1 == 0 && (bt490.2.1 == 0 && (bt490.2.2.1 == 0))) = true then (if bt490.2.2.2 = 3 then (some true) else (some (bt490.2.2.2 == 4))) else (some false)) else (some false))) else (none))) else (none)) else (none))) else (none))) else (none)) = some r := by first | (rw [hy471]; with_reducible exact H) | (have H2_ := (Option.bind_some _ _).symm.trans H; rw [hy471]; with_reducible exact H2_) | (have H2_ := (Option.bind_some _ _).symm.trans H; with_reducible exact H2_) | with_reducible exact H | (rw [hy471]; exact H) | exact H
            have Ny471 := Aside0.mk hy471
            clear hy471
            by_cases c23 : y471.length + t467.length < 140737488355328
            · rw [if_pos c23] at H
              have LMc23 := Aside0.mk c23
              clear c23
              obtain ⟨y474, hy474⟩ : ∃ y_ : List Int, y_ = (y471 ++ t467) := ⟨_, rfl⟩
              replace H : (if y474.length + l1.length < 140737488355328 then ((some (y474 ++ l1 : List Int)).bind fun y477 => (if 0 ≤ (Int.tmod a2_0 33) then (if (Int.tmod a2_0 33) < (y477.length : Int) then ((some (y477.set ((Int.tmod a2_0 33) : Int).toNat (Go.bits .xor .u8 (rd y477 (Int.tmod a2_0 33)) ((a2_1) % 256)) : List Int)).bind fun y481 => (if 17 ≤ (y477.length : Int) then ((oob_Unpack.f kj5 (y481.take 17) (y481.drop 17)).bind fun bt490 => (if t466 = true then (if (bt490.1 == 0 && (bt490.2.1 == 0 && (bt490.2.2.1 == 0))) = true then (if bt490.2.2.2 = 3 then (some true) else (some (bt490.2.2.2 == 4))) else (some false)) else (some false))) else (none))) else (none)) else (none))) else (none)) = some r := by first | (rw [hy474]; with_reducible exact H) | (have H2_ := (Option.bind_some _ _).symm.trans H; rw [hy474]; with_reducible exact H2_) | (have H2_ := (Option.bind_some _ _).symm.trans H; with_reducible exact H2_) | with_reducible exact H | (rw [hy474]; exact H) | exact H
              have Ny474 := Aside0.mk hy474
              clear hy474
              by_cases c24 : y474.length + l1.length < 140737488355328
              · rw [if_pos c24] at H
                have LMc24 := Aside0.mk c24
                clear c24
                obtain ⟨y477, hy477⟩ : ∃ y_ : List Int, y_ = (y474 ++ l1) := ⟨_, rfl⟩
                replace H : (if 0 ≤ (Int.tmod a2_0 33) then (if (Int.tmod a2_0 33) < (y477.length : Int) then ((some (y477.set ((Int.tmod a2_0 33) : Int).toNat (Go.bits .xor .u8 (rd y477 (Int.tmod a2_0 33)) ((a2_1) % 256)) : List Int)).bind fun y481 => (if 17 ≤ (y477.length : Int) then ((oob_Unpack.f kj5 (y481.take 17) (y481.drop 17)).bind fun bt490 => (if t466 = true then (if (bt490.1 == 0 && (bt490.2.1 == 0 && (bt490.2.2.1 == 0))) = true then (if bt490.2.2.2 = 3 then (some true) else (some (bt490.2.2.2 == 4))) else (some false)) else (some false))) else (none))) else (none)) else (none)) = some r := by first | (rw [hy477]; with_reducible exact H) | (have H2_ := (Option.bind_some _ _).symm.trans H; rw [hy477]; with_reducible exact H2_) | (have H2_ := (Option.bind_some _ _).symm.trans H; with_reducible exact H2_) | with_reducible exact H | (rw [hy477]; exact H) | exact H
                have Ny477 := Aside0.mk hy477
                clear hy477
                obtain ⟨ji25, hji25⟩ : ∃ j_ : Int, (Int.tmod a2_0 33) = j_ := ⟨_, rfl⟩
                replace H : (if 0 ≤ (ji25) then (if (ji25) < (y477.length : Int) then ((some (y477.set ((ji25) : Int).toNat (Go.bits .xor .u8 (rd y477 (ji25)) ((a2_1) % 256)) : List Int)).bind fun y481 => (if 17 ≤ (y477.length : Int) then ((oob_Unpack.f kj5 (y481.take 17) (y481.drop 17)).bind fun bt490 => (if t466 = true then (if (bt490.1 == 0 && (bt490.2.1 == 0 && (bt490.2.2.1 == 0))) = true then (if bt490.2.2.2 = 3 then (some true) else (some (bt490.2.2.2 == 4))) else (some false)) else (some false))) else (none))) else (none)) else (none)) = some r := by first | (rw [hji25] at H; exact H) | (simp only [hji25] at H ⊢; exact H)
                by_cases c26 : 0 ≤ (ji25)
                · rw [if_pos c26] at H
                  have c26b0 : decide (0 ≤ (ji25)) = true := decide_eq_true c26
                  clear c26
                  by_cases c27 : (ji25) < (y477.length : Int)
                  · rw [if_pos c27] at H
                    have c27b0 : decide ((ji25) < (y477.length : Int)) = true := decide_eq_true c27
                    clear c27
                    obtain ⟨y481, hy481⟩ : ∃ y_ : List Int, y_ = (y477.set ((ji25) : Int).toNat (Go.bits .xor .u8 (rd y477 (ji25)) ((a2_1) % 256))) := ⟨_, rfl⟩
                    replace H : (if 17 ≤ (y477.length : Int) then ((oob_Unpack.f kj5 (y481.take 17) (y481.drop 17)).bind fun bt490 => (if t466 = true then (if (bt490.1 == 0 && (bt490.2.1 == 0 && (bt490.2.2.1 == 0))) = true then (if bt490.2.2.2 = 3 then (some true) else (some (bt490.2.2.2 == 4))) else (some false)) else (some false))) else (none)) = some r := by first | (rw [hy481]; with_reducible exact H) | (have H2_ := (Option.bind_some _ _).symm.trans H; rw [hy481]; with_reducible exact H2_) | (have H2_ := (Option.bind_some _ _).symm.trans H; with_reducible exact H2_) | with_reducible exact H | (rw [hy481]; exact H) | exact H
                    have Ny481 := Aside0.mk hy481
                    clear hy481
                    by_cases c29 : 17 ≤ (y477.length : Int)
                    · rw [if_pos c29] at H
                      have c29b0 := eq_true c29
                      have c29b1 : decide (17 ≤ (y477.length : Int)) = true := decide_eq_true c29
                      clear c29
                      obtain ⟨y482, hy482⟩ : ∃ y_ : List Int, y_ = (y481.take 17) := ⟨_, rfl⟩
                      replace H : ((oob_Unpack.f kj5 y482 (y481.drop 17)).bind fun bt490 => (if t466 = true then (if (bt490.1 == 0 && (bt490.2.1 == 0 && (bt490.2.2.1 == 0))) = true then (if bt490.2.2.2 = 3 then (some true) else (some (bt490.2.2.2 == 4))) else (some false)) else (some false))) = some r := by first | (rw [hy482]; with_reducible exact H) | (have H2_ := (Option.bind_some _ _).symm.trans H; rw [hy482]; with_reducible exact H2_) | (have H2_ := (Option.bind_some _ _).symm.trans H; with_reducible exact H2_) | with_reducible exact H | (rw [hy482]; exact H) | exact H
                      have Ny482 := Aside0.mk hy482
                      clear hy482
                      have c30b0 := eq_true (of_decide_eq_true (by first | (with_reducible assumption) | assumption) : 17 ≤ (y477.length : Int))
                      obtain ⟨y486, hy486⟩ : ∃ y_ : List Int, y_ = (y481.drop 17) := ⟨_, rfl⟩
                      replace H : ((oob_Unpack.f kj5 y482 y486).bind fun bt490 => (if t466 = true then (if (bt490.1 == 0 && (bt490.2.1 == 0 && (bt490.2.2.1 == 0))) = true then (if bt490.2.2.2 = 3 then (some true) else (some (bt490.2.2.2 == 4))) else (some false)) else (some false))) = some r := by first | (rw [hy486]; with_reducible exact H) | (have H2_ := (Option.bind_some _ _).symm.trans H; rw [hy486]; with_reducible exact H2_) | (have H2_ := (Option.bind_some _ _).symm.trans H; with_reducible exact H2_) | with_reducible exact H | (rw [hy486]; exact H) | exact H
                      have Ny486 := Aside0.mk hy486
                      clear hy486
                      replace H := Option.bind_eq_some_iff.mp H
                      obtain ⟨⟨t490, t491, t492, t493⟩, A310, H⟩ := H
                      replace H : (if t466 = true then (if (t490 == 0 && (t491 == 0 && (t492 == 0))) = true then (if t493 = 3 then (some true) else (some (t493 == 4))) else (some false)) else (some false)) = some r := H
                      have A31 := Aside0.mk A310
                      clear A310
                      by_cases c32 : t466 = true
                      · subst c32
                        have H1 : (if (t490 == 0 && (t491 == 0 && (t492 == 0))) = true then (if t493 = 3 then (some true) else (some (t493 == 4))) else (some false)) = some r := by rw [if_pos rfl] at H; exact H
                        clear H
                        have H := H1
                        clear H1
                        by_cases c33 : (t490 == 0 && (t491 == 0 && (t492 == 0))) = true
                        · rw [if_pos c33] at H
                          have c33b0 : (t490 == 0 && (t491 == 0 && (t492 == 0))) = true := c33
                          (try (have c33b1 : decide (t490 = 0 && (t491 == 0 && (t492 == 0))) = true := by simpa using c33))
                          (try (have c33b2 : (t490 == 0 && (t491 == 0 && (t492 == 0))) = true := by simpa using c33))
                          clear c33
                          by_cases c34 : t493 = 3
                          · rw [if_pos c34] at H
                            have c34b0 : (t493 == 3) = true := beq_iff_eq.mpr c34
                            have c34b1 : (t493 != 3) = false := bne_eq_false_iff_eq.mpr c34
                            clear c34
                            obtain rfl := Option.some.inj H
                            obtain ⟨Ao35, co35, eo35⟩ := Kd.R_slice HO_8.out
                            subst eo35
                            try go_wp2_with (first | ((with_reducible refine gate_dst (N := 45) rfl ?_); (try (refine gate_guard (by rfl) ?_; dsimp only)); refine Kd.R_lit (Kd.int .u8) _ 5 ?hg (N := 45) ?hd (xs := ([] : List Int)) (inner := []) (ok := fun _ => True) (okp := fun _ => True) ?hr ?hp (fun _ hk => hk) trivial (Below.refl _ _) (Nat.le_refl _) (by simp) ?_; (case hd => rfl); (case hg => rfl); (case hr => first | (go_simp; done) | (go_simp; rfl)); (case hp => exact (Reps.none _ _)); intro v472 w36 ho37 hb hg_ hnew_; clear hg_ hnew_; (first | rw [← Ny471.out] at ho37 | (simp only [Int.reduceToNat] at ho37; rw [← Ny471.out] at ho37)); have n0_ := Aside0.mk (Kd.R_elder' (by (with_reducible repeat (first | apply Kd.R_alloc | apply Kd.R_drewN | apply Kd.R_drew)); exact HO_8.out) (Kd.R_base ho37) hb); have n1_ := Aside0.mk (Kd.R_lower (Kd.R_new' ho37 (Kd.R_lt (by (with_reducible repeat (first | apply Kd.R_alloc | apply Kd.R_drewN | apply Kd.R_drew)); exact HO_8.out))) (below_size (by repeat (first | (with_reducible first | exact HB.out | apply below_alloc | apply pw_below_drewN | apply below_drew1 | refine below_set ?_ GE464.out | refine below_set ?_ GE465.out) | exact HB.out)))); have n2_ := Aside0.mk (blk_below (g := gb464) (o := .cells #[.int .i64 a0_0, .int .i64 a0_1, .int .i64 a0_2] 31 (0, 0)) (by (with_reducible repeat (first | refine blk_drewN ?_ _ | refine blk_drew ?_ | refine blk_alloc ?_ _)); exact BK464.out) hb); have n3_ := Aside0.mk (blk_below (g := gb465) (o := .cells #[.int .i64 a2_0, .int .i64 a2_1] 45 (0, 0)) (by (with_reducible repeat (first | refine blk_drewN ?_ _ | refine blk_drew ?_ | refine blk_alloc ?_ _)); exact BK465.out) hb); have n4_ := Aside0.mk (below_step (by repeat (first | (with_reducible first | exact HB.out | apply below_alloc | apply pw_below_drewN | apply below_drew1 | refine below_set ?_ GE464.out | refine below_set ?_ GE465.out) | exact HB.out)) hb); clear HO_8; clear BK464; clear BK465; clear HB; have HO_8 := n0_; have HO473 := n1_; have BK464 := n2_; have BK465 := n3_; have HB := n4_; clear n0_ n1_ n2_ n3_ n4_; clear hb ho37) | ((with_reducible refine gate_builtin (b := .append) (xs := #[.tmp 45, .tmp 46]) rfl ?_); (try (refine gate_guard (by rfl) ?_; dsimp only)); at_builtin; refine Kd.R_append_rows (Kd.int .u8) (w0 := w) w.heap.size rfl (.tmp 45) (.tmp 46) 25 5 (.int .u8 0) 1 rfl Try.underlying25 info5 rfl (by decide) (by omega) v472 y471 t467 _ _ _ (fun k_ => some k_ ≠ (.slice Ao35 t467.length co35 : Value).ownBlock) (fun _ => False) rfl rfl ?aO ?aR (fun _ _ h => h) (fun _ h => h.elim) ?aF ?aB ?aS ?aL ?_; (case aR => repeat (first | exact (Kd.R_reads' HO_8.out).2.2 | (with_reducible refine Kd.C_alloc ?_ _) | (with_reducible refine Kd.C_drewN ?_ _) | (with_reducible refine Kd.C_drew ?_))); (case aB => exact (by repeat (first | (with_reducible first | exact HB.out | apply below_alloc | apply pw_below_drewN | apply below_drew1 | refine below_set ?_ GE464.out | refine below_set ?_ GE465.out) | exact HB.out))); (case aF => exact (fun k_ hk => Kd.fresh' (Kd.R_lt (by (with_reducible repeat (first | apply Kd.R_alloc | apply Kd.R_drewN | apply Kd.R_drew)); exact HO_8.out)) k_ hk)); (case aO => exact (by (with_reducible repeat (first | apply Kd.R_alloc | apply Kd.R_drewN | apply Kd.R_drew)); exact Kd.R_mono HO473.out (fun _ hk => hk.2))); (case aS => exact (below_size (by repeat (first | (with_reducible first | exact HB.out | apply below_alloc | apply pw_below_drewN | apply below_drew1 | refine below_set ?_ GE464.out | refine below_set ?_ GE465.out) | exact HB.out)))); (case aL => have := LMc23.out; omega); intro v475 w38 ho hb hg hat; rw [← Ny474.out] at ho; have n0_ := Aside0.mk (Kd.R_after (ok := (fun _ => True)) (by (with_reducible repeat (first | apply Kd.R_alloc | apply Kd.R_drewN | apply Kd.R_drew)); exact HO_8.out) hg hat); have n1_ := Aside0.mk (blk_grown (g := gb464) (o := .cells #[.int .i64 a0_0, .int .i64 a0_1, .int .i64 a0_2] 31 (0, 0)) (by (with_reducible repeat (first | refine blk_drewN ?_ _ | refine blk_drew ?_ | refine blk_alloc ?_ _)); exact BK464.out) hg (Kd.R_ne HO473.out BK464.out (by decide))); have n2_ := Aside0.mk (blk_grown (g := gb465) (o := .cells #[.int .i64 a2_0, .int .i64 a2_1] 45 (0, 0)) (by (with_reducible repeat (first | refine blk_drewN ?_ _ | refine blk_drew ?_ | refine blk_alloc ?_ _)); exact BK465.out) hg (Kd.R_ne HO473.out BK465.out (by decide))); have n3_ := Aside0.mk (hb); have n4_ := Aside0.mk (ho); clear HO_8; clear BK464; clear BK465; clear HB; clear HO473; have HO_8 := n0_; have BK464 := n1_; have BK465 := n2_; have HB := n3_; have HO476 := n4_; clear n0_ n1_ n2_ n3_ n4_; clear ho hb hg hat) | ((with_reducible refine gate_builtin (b := .append) (xs := #[.tmp 47, .tmp 48]) rfl ?_); (try (refine gate_guard (by rfl) ?_; dsimp only)); at_builtin; refine Kd.R_append_rows (Kd.int .u8) (w0 := w) w.heap.size rfl (.tmp 47) (.tmp 48) 25 5 (.int .u8 0) 1 rfl Try.underlying25 info5 rfl (by decide) (by omega) v475 y474 l1 _ _ _ (fun k_ => some k_ ≠ (.slice Ao35 t467.length co35 : Value).ownBlock) (fun _ => False) rfl rfl ?aO ?aR (fun _ _ h => h) (fun _ h => h.elim) ?aF ?aB ?aS ?aL ?_; (case aR => repeat (first | exact (Kd.C_below HR1.out HB.out) | (with_reducible refine Kd.C_alloc ?_ _) | (with_reducible refine Kd.C_drewN ?_ _) | (with_reducible refine Kd.C_drew ?_))); (case aB => exact (by repeat (first | (with_reducible first | exact HB.out | apply below_alloc | apply pw_below_drewN | apply below_drew1 | refine below_set ?_ GE464.out | refine below_set ?_ GE465.out) | exact HB.out))); (case aF => exact (fun k_ hk => Kd.fresh' (Kd.R_lt (by (with_reducible repeat (first | apply Kd.R_alloc | apply Kd.R_drewN | apply Kd.R_drew)); exact HO_8.out)) k_ hk)); (case aO => exact (by (with_reducible repeat (first | apply Kd.R_alloc | apply Kd.R_drewN | apply Kd.R_drew)); exact HO476.out)); (case aS => exact (below_size (by repeat (first | (with_reducible first | exact HB.out | apply below_alloc | apply pw_below_drewN | apply below_drew1 | refine below_set ?_ GE464.out | refine below_set ?_ GE465.out) | exact HB.out)))); (case aL => have := LMc24.out; omega); intro v478 w39 ho hb hg hat; rw [← Ny477.out] at ho; have n0_ := Aside0.mk (Kd.R_after (ok := (fun _ => True)) (by (with_reducible repeat (first | apply Kd.R_alloc | apply Kd.R_drewN | apply Kd.R_drew)); exact HO_8.out) hg hat); have n1_ := Aside0.mk (blk_grown (g := gb464) (o := .cells #[.int .i64 a0_0, .int .i64 a0_1, .int .i64 a0_2] 31 (0, 0)) (by (with_reducible repeat (first | refine blk_drewN ?_ _ | refine blk_drew ?_ | refine blk_alloc ?_ _)); exact BK464.out) hg (Kd.R_ne HO476.out BK464.out (by decide))); have n2_ := Aside0.mk (blk_grown (g := gb465) (o := .cells #[.int .i64 a2_0, .int .i64 a2_1] 45 (0, 0)) (by (with_reducible repeat (first | refine blk_drewN ?_ _ | refine blk_drew ?_ | refine blk_alloc ?_ _)); exact BK465.out) hg (Kd.R_ne HO476.out BK465.out (by decide))); have n3_ := Aside0.mk (hb); have n4_ := Aside0.mk (ho); clear HO_8; clear BK464; clear BK465; clear HB; clear HO476; have HO_8 := n0_; have BK464 := n1_; have BK465 := n2_; have HB := n3_; have HO479 := n4_; clear n0_ n1_ n2_ n3_ n4_; clear ho hb hg hat; have hnb40 := NB465_464.out; have hnc40 := NB464_465.out; have hcz41_0 : w39.cell? ⟨gb465, 0, none⟩ = some (.int .i64 a2_0) := (blk_cell BK465.out 0).trans rfl; have hcz41_1 : w39.cell? ⟨gb465, 1, none⟩ = some (.int .i64 a2_1) := (blk_cell BK465.out 1).trans rfl; have hfz41_0 := blk_frozen BK465.out 0; have hfz41_1 := blk_frozen BK465.out 1; obtain ⟨Ao42, co42, eo42⟩ := Kd.R_slice HO479.out; subst eo42; have p480 : 0 ≤ ((ji25) : Int) := of_decide_eq_true (by first | (with_reducible assumption) | assumption); have q480 : (ji25) < (y477.length : Int) := of_decide_eq_true (by first | (with_reducible assumption) | assumption); obtain ⟨ad480, e480, hx480_0⟩ := Kd.at_int (Kd.R_reads' HO479.out).2.2 (ji25) p480 q480; cases e480; replace p480 := eq_true p480; replace q480 := eq_true q480; have p28 : 0 ≤ ((ji25) : Int) := of_decide_eq_true (by first | (with_reducible assumption) | assumption); have q28 : ((ji25) : Int) < ((y477.length : Int) : Int) := of_decide_eq_true (by first | (with_reducible assumption) | assumption); obtain ⟨go28, co28, eo28, gb28, gl28, cl28, HG28⟩ := Kd.R_form HO479.out (by omega); (first | cases eo28 | (injection eo28 with ea_ en_ ec_; (first | subst ea_ | (injection ea_ with ea_; subst ea_)); subst ec_; clear en_)); have GB28 := Aside0.mk gb28; have GG28 := Aside0.mk HG28; clear gb28 gl28 HG28; (first | simp only [add_plain] at hx480_0 | skip); obtain ⟨hx28_0, hf28_0⟩ := Kd.R_celln 0 HO479.out ((ji25) : Int) p28 q28; replace p28 := eq_true p28; replace q28 := eq_true q28; obtain ⟨hy43_, hz43_⟩ := Kd.R_celln 0 HO479.out ((ji25) : Int) (of_decide_eq_true (by first | (with_reducible assumption) | assumption)) (of_decide_eq_true (by first | (with_reducible assumption) | assumption)); have HP43 := Kd.R_putg HO479.out ((ji25) : Int) (Go.bits .xor .u8 (rd y477 (ji25)) ((a2_1) % 256))) | ((with_reducible refine gate_store (t := 5) (p := 61) rfl ?_); refine store_event (t := 5) (p := 61) (v := ?vo_w44) (w1 := (w39.setCell ⟨go28, ((ji25) : Int).toNat, none⟩ (.int .u8 (Go.bits .xor .u8 (rd y477 (ji25)) ((a2_1) % 256))))) ?hg ?ho ?hn ?hr ?_; (case ho => rfl); (case hg => rfl); (case hn => rfl); (case hr => first | (go_simp; done) | (go_simp; rfl)); intro w44 hw; have hg : w39.grownBy w44 (some go28) := (by rw [hw]; exact HP43.2); have hp_ : Kd.R (Kd.int .u8) 5 w44 w.heap.size (fun k_ => some k_ ≠ (.slice Ao35 t467.length co35 : Value).ownBlock) (.slice (some ⟨go28, 0, none⟩) y477.length co42) y481 := (by rw [hw, Ny481.out]; exact HP43.1); clear HP43; have n0_ := Aside0.mk (Kd.R_after (v := (.slice (some ⟨go28, 0, none⟩) y477.length co42)) (v1 := (.slice (some ⟨go28, 0, none⟩) y477.length co42)) (ok := (fun _ => True)) (by (with_reducible repeat (first | apply Kd.R_alloc | apply Kd.R_drewN | apply Kd.R_drew)); exact HO_8.out) hg (.inl rfl)); have n1_ := Aside0.mk (blk_grown (g := gb464) (o := .cells #[.int .i64 a0_0, .int .i64 a0_1, .int .i64 a0_2] 31 (0, 0)) (by (with_reducible repeat (first | refine blk_drewN ?_ _ | refine blk_drew ?_ | refine blk_alloc ?_ _)); exact BK464.out) hg (Kd.R_ne HO479.out BK464.out (by decide))); have n2_ := Aside0.mk (blk_grown (g := gb465) (o := .cells #[.int .i64 a2_0, .int .i64 a2_1] 45 (0, 0)) (by (with_reducible repeat (first | refine blk_drewN ?_ _ | refine blk_drew ?_ | refine blk_alloc ?_ _)); exact BK465.out) hg (Kd.R_ne HO479.out BK465.out (by decide))); have n3_ := Aside0.mk (hp_); have n4_ := Aside0.mk ((by rw [hw]; exact below_set (HB.out) GB28.out : Below w.heap.size w w44)); clear HO_8; clear BK464; clear BK465; clear HO479; clear HB; have HO_8 := n0_; have BK464 := n1_; have BK465 := n2_; have HO479 := n3_; have HB := n4_; clear n0_ n1_ n2_ n3_ n4_; clear hg hw hp_))
                            (try (rw [drewN_self w44]; generalize hq_ : World.drewN w44 _ = w44; have n0_ : Aside0 (Kd.R (Kd.int .u8) 5 w44 w.heap.size (fun k_ => some k_ ≠ (.slice Ao35 t467.length co35 : Value).ownBlock) (.slice (some ⟨go28, 0, none⟩) y477.length co42) y481) := ⟨by rw [← hq_]; exact (by (with_reducible repeat (first | apply Kd.R_alloc | apply Kd.R_drewN | apply Kd.R_drew)); exact HO479.out)⟩; have n1_ : Aside0 (Kd.R (Kd.int .u8) 5 w44 w.heap.size (fun k_ => some k_ ≠ (.slice (some ⟨go28, 0, none⟩) y477.length co42 : Value).ownBlock) (.slice Ao35 t467.length co35) t467) := ⟨by rw [← hq_]; exact (by (with_reducible repeat (first | apply Kd.R_alloc | apply Kd.R_drewN | apply Kd.R_drew)); exact Kd.R_mono HO_8.out (fun _ hk => hk.2))⟩; have n2_ : Aside0 (w44.heap[gb464]? = some (.cells #[.int .i64 a0_0, .int .i64 a0_1, .int .i64 a0_2] 31 (0, 0))) := ⟨by rw [← hq_]; exact (by (with_reducible repeat (first | refine blk_drewN ?_ _ | refine blk_drew ?_ | refine blk_alloc ?_ _)); exact BK464.out)⟩; have n3_ : Aside0 (w44.heap[gb465]? = some (.cells #[.int .i64 a2_0, .int .i64 a2_1] 45 (0, 0))) := ⟨by rw [← hq_]; exact (by (with_reducible repeat (first | refine blk_drewN ?_ _ | refine blk_drew ?_ | refine blk_alloc ?_ _)); exact BK465.out)⟩; have n4_ : Aside0 (Below w.heap.size w w44) := ⟨by rw [← hq_]; exact (by repeat (first | (with_reducible first | exact HB.out | apply below_alloc | apply pw_below_drewN | apply below_drew1 | refine below_set ?_ GE464.out | refine below_set ?_ GE465.out) | exact HB.out))⟩; clear HO479 HO_8 BK464 BK465 HB hq_; have HO479 := n0_; have HO_8 := n1_; have BK464 := n2_; have BK465 := n3_; have HB := n4_; clear n0_ n1_ n2_ n3_ n4_))
                            have n0_ := Aside0.mk (Kd.R_drew HO_8.out)
                            have n1_ := Aside0.mk (Kd.R_drew HO479.out)
                            have n2_ := Aside0.mk (blk_drew BK464.out)
                            have n3_ := Aside0.mk (blk_drew BK465.out)
                            have n4_ := Aside0.mk (below_drew1 HB.out)
                            clear HO_8
                            clear HO479
                            clear BK464
                            clear BK465
                            clear HB
                            have HO_8 := n0_
                            have HO479 := n1_
                            have BK464 := n2_
                            have BK465 := n3_
                            have HB := n4_
                            clear n0_ n1_ n2_ n3_ n4_
                            have hlx46 := (Kd.R_reads' HO479.out).1
                            have q46 : (17 : Int) ≤ ((y477.length : Int) : Int) := of_decide_eq_true (by first | (with_reducible assumption) | assumption)
                            obtain ⟨i046, hi046, _, hsz46, _⟩ := info_parts info5
                            have hroom46 : y477.length ≤ co42 := (Kd.R_reads' HO479.out).2.1
                            have hroomc46 : y481.length ≤ co42 := (by rw [← hlx46]; exact hroom46)
                            have hC46 : Kd.C (Kd.int .u8) _ (some ⟨go28, 0, none⟩) y481.length y481 := (Kd.R_reads' HO479.out).2.2
                            have hcut46 := cut_to (P := Try.prog) 25 5 .i64 Try.underlying25 hi046 (some ⟨go28, 0, none⟩) y477.length co42 17 (by omega) q46 hroom46
                            have hr46 := Kd.C_take (m := 17) hC46 (by omega)
                            have hy46 : y482.length = (17 : Int).toNat := (by rw [Ny482.out, List.length_take]; omega)
                            rw [← Ny482.out] at hr46
                            rw [← hy46] at hcut46
                            have HR485 := Aside0.mk hr46
                            have HC485 := Aside0.mk (show y482.length ≤ co42 from by omega)
                            clear hr46 hC46 hroom46 hi046 hsz46 hroomc46
                            have KY46 := Aside0.mk hy46
                            clear hy46
                            have KE46 := Aside0.mk hlx46
                            have KL46 := Aside0.mk (show 17 ≤ y481.length from by omega)
                            clear hlx46
                            replace q46 := eq_true q46
                            have hlx47 := (Kd.R_reads' HO479.out).1
                            have q47 : (17 : Int) ≤ ((y477.length : Int) : Int) := of_decide_eq_true (by first | (with_reducible assumption) | assumption)
                            obtain ⟨i047, hi047, _, hsz47, _⟩ := info_parts info5
                            have hroom47 : y477.length ≤ co42 := (Kd.R_reads' HO479.out).2.1
                            have hroomc47 : y481.length ≤ co42 := (by rw [← hlx47]; exact hroom47)
                            have hC47 : Kd.C (Kd.int .u8) _ (some ⟨go28, 0, none⟩) y481.length y481 := (Kd.R_reads' HO479.out).2.2
                            have hcut47 := cut_from (P := Try.prog) 25 5 .i64 Try.underlying25 hi047 1 hsz47 (some ⟨go28, 0, none⟩) y477.length co42 17 (by omega) q47
                            have hr47 := Kd.C_drop (m := (17 : Int).toNat) (c := co42) hC47 (by omega) hroomc47
                            obtain ⟨A47, hA47⟩ : ∃ A1, A1 = (if co42 = (17 : Int).toNat then (some ⟨go28, 0, none⟩) else ((some ⟨go28, 0, none⟩) : Option Addr).map (·.add ((17 : Int).toNat * 1))) := ⟨_, rfl⟩
                            obtain ⟨c47, hc47⟩ : ∃ c1, c1 = co42 - (17 : Int).toNat := ⟨_, rfl⟩
                            have hy47 : y486.length = y477.length - (17 : Int).toNat := (by rw [Ny486.out, List.length_drop] <;> omega)
                            rw [show (y481).drop (17 : Int).toNat = y486 from Ny486.out.symm] at hr47
                            replace hr47 : Kd.C (Kd.int .u8) _ A47 y486.length y486 := (by rw [hA47]; exact hr47)
                            rw [← hy47, ← hA47, ← hc47] at hcut47
                            have HR489 := Aside0.mk hr47
                            have HC489 := Aside0.mk (show y486.length ≤ c47 from by rw [hy47, hc47]; exact Nat.sub_le_sub_right hroom47 _)
                            clear hr47 hC47 hroom47 hi047 hsz47 hc47 hroomc47
                            have KY47 := Aside0.mk hy47
                            have KA47 := Aside0.mk hA47
                            clear hy47 hA47
                            have KE47 := Aside0.mk hlx47
                            have KL47 := Aside0.mk (show 17 ≤ y481.length from by omega)
                            clear hlx47
                            replace q47 := eq_true q47
                            refine start_ (n := 11) (S := fun w' => True) (ds := []) #[false, false, false, false, false, false, false, false, false, false, false] (by kernel_rfl) rfl rfl trivial (fun hHeld => ?_); refine with_tabW strakelaw05_OobTurned.tab11 strakelaw05_OobTurned.bits11 (fun HT_ HW_ => ?_)
                            generalize w44.drew = w45 at HO_8 HO479 BK464 BK465 HB HR485 HR489 hHeld ⊢
                            refine pure_ (i := 0) (N := some 63) (v := ?_) (a' := ?_) #[true, false, false, false, false, false, false, false, false, false, false] rfl rfl (any_of HT_.out (by kernel_rfl)) (fun _ _ _ h => h) (Or.inl ⟨by rfl, ?_⟩) ?_ ?_
                            rotate_left
                            · intro w'
                              go_simp
                              with_reducible rfl
                            rotate_left
                            · simp only [Act.put, List.setIfInBounds_toArray, List.set_cons_zero, List.set_cons_succ, i64_w, i32_w]
                              rfl
                            refine pure_ (i := 1) (N := some 64) (v := ?_) (a' := ?_) #[true, true, false, false, false, false, false, false, false, false, false] rfl rfl (any_of HT_.out (by kernel_rfl)) (fun _ _ _ h => h) (Or.inl ⟨by rfl, ?_⟩) ?_ ?_
                            rotate_left
                            · intro w'
                              go_simp
                              with_reducible rfl
                            rotate_left
                            · simp only [Act.put, List.setIfInBounds_toArray, List.set_cons_zero, List.set_cons_succ, i64_w, i32_w]
                              rfl
                            refine pure_ (i := 2) (N := some 65) (v := ?_) (a' := ?_) #[true, true, true, false, false, false, false, false, false, false, false] rfl rfl (any_of HT_.out (by kernel_rfl)) (fun _ _ _ h => h) (Or.inl ⟨by rfl, ?_⟩) ?_ ?_
                            rotate_left
                            · intro w'
                              go_simp
                              with_reducible rfl
                            rotate_left
                            · simp only [Act.put, List.setIfInBounds_toArray, List.set_cons_zero, List.set_cons_succ, i64_w, i32_w]
                              rfl
                            refine pure_ (i := 3) (N := some 66) (v := ?_) (a' := ?_) #[true, true, true, true, false, false, false, false, false, false, false] rfl rfl (any_of HT_.out (by kernel_rfl)) (fun _ _ _ h => h) (Or.inl ⟨by rfl, ?_⟩) ?_ ?_
                            rotate_left
                            · intro w'
                              go_simp
                              with_reducible rfl
                            rotate_left
                            · simp only [Act.put, List.setIfInBounds_toArray, List.set_cons_zero, List.set_cons_succ, i64_w, i32_w]
                              rfl
                            refine join_ (σ := Nat) 2 #[true, true, true, true, true, true, true, true, true, false, false] (fun s_ => [(67, .tuple #[.agg #[.int .i64 t490, .int .i64 t491, .int .i64 t492], .int .i64 t493]), (13, .pointer (some ⟨s_, 0, none⟩)), (62, .tuple #[.agg #[.int .i64 t490, .int .i64 t491, .int .i64 t492], .int .i64 t493]), (68, .agg #[.int .i64 t490, .int .i64 t491, .int .i64 t492]), (69, .int .i64 t493)]) (fun s_ w' => (Kd.R (Kd.int .u8) 5 w' w.heap.size (fun k_ => some k_ ≠ (.slice Ao35 t467.length co35 : Value).ownBlock) (.slice (some ⟨go28, 0, none⟩) y477.length co42) y481) ∧ (Kd.R (Kd.int .u8) 5 w' w.heap.size (fun k_ => some k_ ≠ (.slice (some ⟨go28, 0, none⟩) y477.length co42 : Value).ownBlock) (.slice Ao35 t467.length co35) t467) ∧ (w'.heap[gb464]? = some (.cells #[.int .i64 a0_0, .int .i64 a0_1, .int .i64 a0_2] 31 (0, 0))) ∧ (w'.heap[gb465]? = some (.cells #[.int .i64 a2_0, .int .i64 a2_1] 45 (0, 0))) ∧ (w'.heap[s_]? = some (.cells #[.int .i64 0, .int .i64 0, .int .i64 0] 31 (0, 0))) ∧ (w.heap.size ≤ s_) ∧ (w.heap.size ≤ s_) ∧ (gb464 ≠ s_) ∧ (s_ ≠ gb464) ∧ (gb465 ≠ s_) ∧ (s_ ≠ gb465) ∧ (Below w.heap.size w w')) ?_ ?_
                            rotate_left
                            · intro hCont
                              refine two_ (i := 4) (j := 8) (Ni := some 67) (Nj := some 13) #[true, true, true, true, true, false, false, false, false, false, false] #[true, true, true, true, false, false, false, false, true, false, false] rfl rfl rfl rfl (two_of HT_.out (by kernel_rfl)) (by decide) (by decide) (fun K hK => ?_) (fun K hK => ?_)
                              · skip
                                refine goes_ Try.func30 (by kernel_rfl) rfl #[.slice (some ⟨go28, 0, none⟩) y482.length co42, .slice A47 y486.length c47] (by rfl) rfl rfl (by (try simp only [List.map_toArray, List.map_cons, List.map_nil]); first | done | rfl | (simp only [List.length_drop, List.length_take]; rfl)) ?_
                                with_reducible refine (oob_Unpack.calls kj5 _ _ y482 _ _ y486 t490 t491 t492 t493 _ ?side1 ?side2 ?side3 ?side4 A31.out).mono ?_
                                (case side1 => repeat (first | exact (by repeat (first | (with_reducible exact HR485.out) | (with_reducible refine Kd.C_alloc ?_ _) | (with_reducible refine Kd.C_drewN ?_ _) | (with_reducible refine Kd.C_drew ?_) | exact HR485.out)) | (with_reducible refine Kd.C_alloc ?_ _) | (with_reducible refine Kd.C_drewN ?_ _) | (with_reducible refine Kd.C_drew ?_)))
                                (case side2 => exact HC485.out)
                                (case side3 => repeat (first | exact (by repeat (first | (with_reducible exact HR489.out) | (with_reducible refine Kd.C_alloc ?_ _) | (with_reducible refine Kd.C_drewN ?_ _) | (with_reducible refine Kd.C_drew ?_) | exact HR489.out)) | (with_reducible refine Kd.C_alloc ?_ _) | (with_reducible refine Kd.C_drewN ?_ _) | (with_reducible refine Kd.C_drew ?_)))
                                (case side4 => exact HC489.out)
                                rintro e w48 ⟨rfl, hb⟩
                                refine ⟨_, rfl, ?_⟩
                                have n0_ := Aside0.mk (Kd.R_below (by (with_reducible repeat (first | apply Kd.R_alloc | apply Kd.R_drewN | apply Kd.R_drew)); exact HO_8.out) hb)
                                have n1_ := Aside0.mk (Kd.R_below (by (with_reducible repeat (first | apply Kd.R_alloc | apply Kd.R_drewN | apply Kd.R_drew)); exact HO479.out) hb)
                                have n2_ := Aside0.mk (blk_below (g := gb464) (o := .cells #[.int .i64 a0_0, .int .i64 a0_1, .int .i64 a0_2] 31 (0, 0)) (by (with_reducible repeat (first | refine blk_drewN ?_ _ | refine blk_drew ?_ | refine blk_alloc ?_ _)); exact BK464.out) hb)
                                have n3_ := Aside0.mk (blk_below (g := gb465) (o := .cells #[.int .i64 a2_0, .int .i64 a2_1] 45 (0, 0)) (by (with_reducible repeat (first | refine blk_drewN ?_ _ | refine blk_drew ?_ | refine blk_alloc ?_ _)); exact BK465.out) hb)
                                have n4_ := Aside0.mk (Kd.C_below (by repeat (first | (with_reducible exact HR485.out) | (with_reducible refine Kd.C_alloc ?_ _) | (with_reducible refine Kd.C_drewN ?_ _) | (with_reducible refine Kd.C_drew ?_) | exact HR485.out)) hb)
                                have n5_ := Aside0.mk (Kd.C_below (by repeat (first | (with_reducible exact HR489.out) | (with_reducible refine Kd.C_alloc ?_ _) | (with_reducible refine Kd.C_drewN ?_ _) | (with_reducible refine Kd.C_drew ?_) | exact HR489.out)) hb)
                                have n6_ := Aside0.mk (below_step (by repeat (first | (with_reducible first | exact HB.out | apply below_alloc | apply pw_below_drewN | apply below_drew1 | refine below_set ?_ GE464.out | refine below_set ?_ GE465.out) | exact HB.out)) hb)
                                clear HO_8
                                clear HO479
                                clear BK464
                                clear BK465
                                clear HR485
                                clear HR489
                                clear HB
                                have HO_8 := n0_
                                have HO479 := n1_
                                have BK464 := n2_
                                have BK465 := n3_
                                have HR485 := n4_
                                have HR489 := n5_
                                have HB := n6_
                                clear n0_ n1_ n2_ n3_ n4_ n5_ n6_
                                (try clear hb)
                                (try clear hb2)
                                (try clear hk)
                                (try clear hi)
                                refine hK.out _ _ trivial (fun hHeld => ?_)
                                clear hK K
                                refine norm_ (a' := ?_) ?_ ?_
                                rotate_left
                                · show Act.put _ (some 67) _ = _
                                  simp only [Act.put, List.setIfInBounds_toArray, List.set_cons_zero, List.set_cons_succ, i64_w, i32_w]
                                  rfl
                                refine pure_ (i := 5) (N := some 62) (v := ?_) (a' := ?_) #[true, true, true, true, true, true, false, false, false, false, false] rfl rfl (any_of HT_.out (by kernel_rfl)) (fun _ _ _ h => h) (Or.inl ⟨by rfl, ?_⟩) ?_ ?_
                                rotate_left
                                · intro w'
                                  go_simp
                                  with_reducible rfl
                                rotate_left
                                · simp only [Act.put, List.setIfInBounds_toArray, List.set_cons_zero, List.set_cons_succ, i64_w, i32_w]
                                  rfl
                                refine pure_ (i := 6) (N := some 68) (v := ?_) (a' := ?_) #[true, true, true, true, true, true, true, false, false, false, false] rfl rfl (any_of HT_.out (by kernel_rfl)) (fun _ _ _ h => h) (Or.inl ⟨by rfl, ?_⟩) ?_ ?_
                                rotate_left
                                · intro w'
                                  go_simp
                                  with_reducible rfl
                                rotate_left
                                · simp only [Act.put, List.setIfInBounds_toArray, List.set_cons_zero, List.set_cons_succ, i64_w, i32_w]
                                  rfl
                                refine pure_ (i := 7) (N := some 69) (v := ?_) (a' := ?_) #[true, true, true, true, true, true, true, true, false, false, false] rfl rfl (any_of HT_.out (by kernel_rfl)) (fun _ _ _ h => h) (Or.inl ⟨by rfl, ?_⟩) ?_ ?_
                                rotate_left
                                · intro w'
                                  go_simp
                                  with_reducible rfl
                                rotate_left
                                · simp only [Act.put, List.setIfInBounds_toArray, List.set_cons_zero, List.set_cons_succ, i64_w, i32_w]
                                  rfl
                                refine one_ (i := 8) (N := some 13) #[true, true, true, true, true, true, true, true, true, false, false] rfl rfl (one_of HT_.out (by kernel_rfl)) (by decide) (fun K hK => ?_)
                                refine box_step ?hg (N := 13) ?hd (cs := #[.int .i64 0, .int .i64 0, .int .i64 0]) (t := 31) ?hr ?_; (case hd => rfl); (case hg => rfl); (case hr => first | (go_simp; done) | (go_simp; rfl))
                                intro gb494 hg w49 hbox hb
                                have n0_ := Aside0.mk (Kd.R_below (by (with_reducible repeat (first | apply Kd.R_alloc | apply Kd.R_drewN | apply Kd.R_drew)); exact HO_8.out) hb)
                                have n1_ := Aside0.mk (Kd.R_below (by (with_reducible repeat (first | apply Kd.R_alloc | apply Kd.R_drewN | apply Kd.R_drew)); exact HO479.out) hb)
                                have n2_ := Aside0.mk (blk_below (g := gb464) (o := .cells #[.int .i64 a0_0, .int .i64 a0_1, .int .i64 a0_2] 31 (0, 0)) (by (with_reducible repeat (first | refine blk_drewN ?_ _ | refine blk_drew ?_ | refine blk_alloc ?_ _)); exact BK464.out) hb)
                                have n3_ := Aside0.mk (blk_below (g := gb465) (o := .cells #[.int .i64 a2_0, .int .i64 a2_1] 45 (0, 0)) (by (with_reducible repeat (first | refine blk_drewN ?_ _ | refine blk_drew ?_ | refine blk_alloc ?_ _)); exact BK465.out) hb)
                                have n4_ := Aside0.mk (Kd.C_below (by repeat (first | (with_reducible exact HR485.out) | (with_reducible refine Kd.C_alloc ?_ _) | (with_reducible refine Kd.C_drewN ?_ _) | (with_reducible refine Kd.C_drew ?_) | exact HR485.out)) hb)
                                have n5_ := Aside0.mk (Kd.C_below (by repeat (first | (with_reducible exact HR489.out) | (with_reducible refine Kd.C_alloc ?_ _) | (with_reducible refine Kd.C_drewN ?_ _) | (with_reducible refine Kd.C_drew ?_) | exact HR489.out)) hb)
                                have n6_ := Aside0.mk (below_step (by repeat (first | (with_reducible first | exact HB.out | apply below_alloc | apply pw_below_drewN | apply below_drew1 | refine below_set ?_ GE464.out | refine below_set ?_ GE465.out) | exact HB.out)) hb)
                                have n7_ := Aside0.mk (hbox)
                                have n8_ := Aside0.mk ((by rw [hg]; exact (below_size (by repeat (first | (with_reducible first | exact HB.out | apply below_alloc | apply pw_below_drewN | apply below_drew1 | refine below_set ?_ GE464.out | refine below_set ?_ GE465.out) | exact HB.out))) : w.heap.size ≤ gb494))
                                have n9_ := Aside0.mk ((by rw [hg]; exact (below_size (by repeat (first | (with_reducible first | exact HB.out | apply below_alloc | apply pw_below_drewN | apply below_drew1 | refine below_set ?_ GE464.out | refine below_set ?_ GE465.out) | exact HB.out))) : w.heap.size ≤ gb494))
                                have n10_ := Aside0.mk ((by rw [hg]; exact Nat.ne_of_lt (blk_lt (g := gb464) (o := .cells #[.int .i64 a0_0, .int .i64 a0_1, .int .i64 a0_2] 31 (0, 0)) (by (with_reducible repeat (first | refine blk_drewN ?_ _ | refine blk_drew ?_ | refine blk_alloc ?_ _)); exact BK464.out)) : gb464 ≠ gb494))
                                have n11_ := Aside0.mk ((by rw [hg]; exact Nat.ne_of_gt (blk_lt (g := gb464) (o := .cells #[.int .i64 a0_0, .int .i64 a0_1, .int .i64 a0_2] 31 (0, 0)) (by (with_reducible repeat (first | refine blk_drewN ?_ _ | refine blk_drew ?_ | refine blk_alloc ?_ _)); exact BK464.out)) : gb494 ≠ gb464))
                                have n12_ := Aside0.mk ((by rw [hg]; exact Nat.ne_of_lt (blk_lt (g := gb465) (o := .cells #[.int .i64 a2_0, .int .i64 a2_1] 45 (0, 0)) (by (with_reducible repeat (first | refine blk_drewN ?_ _ | refine blk_drew ?_ | refine blk_alloc ?_ _)); exact BK465.out)) : gb465 ≠ gb494))
                                have n13_ := Aside0.mk ((by rw [hg]; exact Nat.ne_of_gt (blk_lt (g := gb465) (o := .cells #[.int .i64 a2_0, .int .i64 a2_1] 45 (0, 0)) (by (with_reducible repeat (first | refine blk_drewN ?_ _ | refine blk_drew ?_ | refine blk_alloc ?_ _)); exact BK465.out)) : gb494 ≠ gb465))
                                clear HO_8
                                clear HO479
                                clear BK464
                                clear BK465
                                clear HR485
                                clear HR489
                                clear HB
                                have HO_8 := n0_
                                have HO479 := n1_
                                have BK464 := n2_
                                have BK465 := n3_
                                have HR485 := n4_
                                have HR489 := n5_
                                have HB := n6_
                                have BK494 := n7_
                                have GW494 := n8_
                                have GE494 := n9_
                                have NB464_494 := n10_
                                have NB494_464 := n11_
                                have NB465_494 := n12_
                                have NB494_465 := n13_
                                clear n0_ n1_ n2_ n3_ n4_ n5_ n6_ n7_ n8_ n9_ n10_ n11_ n12_ n13_
                                clear hb hbox hg
                                refine hK.out _ _ trivial (fun hHeld => ?_)
                                clear hK K
                                refine norm_ (a' := ?_) ?_ ?_
                                rotate_left
                                · show Act.put _ (some 13) _ = _
                                  simp only [Act.put, List.setIfInBounds_toArray, List.set_cons_zero, List.set_cons_succ, i64_w, i32_w]
                                  rfl
                                exact norm_ (by simp only [putAll, Act.put, List.setIfInBounds_toArray, List.set_cons_zero, List.set_cons_succ]) (hCont (gb494) _ ⟨(by (with_reducible repeat (first | apply Kd.R_alloc | apply Kd.R_drewN | apply Kd.R_drew)); exact HO479.out), (by (with_reducible repeat (first | apply Kd.R_alloc | apply Kd.R_drewN | apply Kd.R_drew)); exact Kd.R_mono HO_8.out (fun _ hk => hk.2)), (by (with_reducible repeat (first | refine blk_drewN ?_ _ | refine blk_drew ?_ | refine blk_alloc ?_ _)); exact BK464.out), (by (with_reducible repeat (first | refine blk_drewN ?_ _ | refine blk_drew ?_ | refine blk_alloc ?_ _)); exact BK465.out), (by (with_reducible repeat (first | refine blk_drewN ?_ _ | refine blk_drew ?_ | refine blk_alloc ?_ _)); exact BK494.out), GW494.out, GE494.out, NB464_494.out, NB494_464.out, NB465_494.out, NB494_465.out, (by repeat (first | (with_reducible first | exact HB.out | apply below_alloc | apply pw_below_drewN | apply below_drew1 | refine below_set ?_ GE464.out | refine below_set ?_ GE465.out | refine below_set ?_ GE494.out) | exact HB.out))⟩)
                              · skip
                                refine box_step ?hg (N := 13) ?hd (cs := #[.int .i64 0, .int .i64 0, .int .i64 0]) (t := 31) ?hr ?_; (case hd => rfl); (case hg => rfl); (case hr => first | (go_simp; done) | (go_simp; rfl))
                                intro gb494 hg w48 hbox hb
                                have n0_ := Aside0.mk (Kd.R_below (by (with_reducible repeat (first | apply Kd.R_alloc | apply Kd.R_drewN | apply Kd.R_drew)); exact HO_8.out) hb)
                                have n1_ := Aside0.mk (Kd.R_below (by (with_reducible repeat (first | apply Kd.R_alloc | apply Kd.R_drewN | apply Kd.R_drew)); exact HO479.out) hb)
                                have n2_ := Aside0.mk (blk_below (g := gb464) (o := .cells #[.int .i64 a0_0, .int .i64 a0_1, .int .i64 a0_2] 31 (0, 0)) (by (with_reducible repeat (first | refine blk_drewN ?_ _ | refine blk_drew ?_ | refine blk_alloc ?_ _)); exact BK464.out) hb)
                                have n3_ := Aside0.mk (blk_below (g := gb465) (o := .cells #[.int .i64 a2_0, .int .i64 a2_1] 45 (0, 0)) (by (with_reducible repeat (first | refine blk_drewN ?_ _ | refine blk_drew ?_ | refine blk_alloc ?_ _)); exact BK465.out) hb)
                                have n4_ := Aside0.mk (Kd.C_below (by repeat (first | (with_reducible exact HR485.out) | (with_reducible refine Kd.C_alloc ?_ _) | (with_reducible refine Kd.C_drewN ?_ _) | (with_reducible refine Kd.C_drew ?_) | exact HR485.out)) hb)
                                have n5_ := Aside0.mk (Kd.C_below (by repeat (first | (with_reducible exact HR489.out) | (with_reducible refine Kd.C_alloc ?_ _) | (with_reducible refine Kd.C_drewN ?_ _) | (with_reducible refine Kd.C_drew ?_) | exact HR489.out)) hb)
                                have n6_ := Aside0.mk (below_step (by repeat (first | (with_reducible first | exact HB.out | apply below_alloc | apply pw_below_drewN | apply below_drew1 | refine below_set ?_ GE464.out | refine below_set ?_ GE465.out) | exact HB.out)) hb)
                                have n7_ := Aside0.mk (hbox)
                                have n8_ := Aside0.mk ((by rw [hg]; exact (below_size (by repeat (first | (with_reducible first | exact HB.out | apply below_alloc | apply pw_below_drewN | apply below_drew1 | refine below_set ?_ GE464.out | refine below_set ?_ GE465.out) | exact HB.out))) : w.heap.size ≤ gb494))
                                have n9_ := Aside0.mk ((by rw [hg]; exact (below_size (by repeat (first | (with_reducible first | exact HB.out | apply below_alloc | apply pw_below_drewN | apply below_drew1 | refine below_set ?_ GE464.out | refine below_set ?_ GE465.out) | exact HB.out))) : w.heap.size ≤ gb494))
                                have n10_ := Aside0.mk ((by rw [hg]; exact Nat.ne_of_lt (blk_lt (g := gb464) (o := .cells #[.int .i64 a0_0, .int .i64 a0_1, .int .i64 a0_2] 31 (0, 0)) (by (with_reducible repeat (first | refine blk_drewN ?_ _ | refine blk_drew ?_ | refine blk_alloc ?_ _)); exact BK464.out)) : gb464 ≠ gb494))
                                have n11_ := Aside0.mk ((by rw [hg]; exact Nat.ne_of_gt (blk_lt (g := gb464) (o := .cells #[.int .i64 a0_0, .int .i64 a0_1, .int .i64 a0_2] 31 (0, 0)) (by (with_reducible repeat (first | refine blk_drewN ?_ _ | refine blk_drew ?_ | refine blk_alloc ?_ _)); exact BK464.out)) : gb494 ≠ gb464))
                                have n12_ := Aside0.mk ((by rw [hg]; exact Nat.ne_of_lt (blk_lt (g := gb465) (o := .cells #[.int .i64 a2_0, .int .i64 a2_1] 45 (0, 0)) (by (with_reducible repeat (first | refine blk_drewN ?_ _ | refine blk_drew ?_ | refine blk_alloc ?_ _)); exact BK465.out)) : gb465 ≠ gb494))
                                have n13_ := Aside0.mk ((by rw [hg]; exact Nat.ne_of_gt (blk_lt (g := gb465) (o := .cells #[.int .i64 a2_0, .int .i64 a2_1] 45 (0, 0)) (by (with_reducible repeat (first | refine blk_drewN ?_ _ | refine blk_drew ?_ | refine blk_alloc ?_ _)); exact BK465.out)) : gb494 ≠ gb465))
                                clear HO_8
                                clear HO479
                                clear BK464
                                clear BK465
                                clear HR485
                                clear HR489
                                clear HB
                                have HO_8 := n0_
                                have HO479 := n1_
                                have BK464 := n2_
                                have BK465 := n3_
                                have HR485 := n4_
                                have HR489 := n5_
                                have HB := n6_
                                have BK494 := n7_
                                have GW494 := n8_
                                have GE494 := n9_
                                have NB464_494 := n10_
                                have NB494_464 := n11_
                                have NB465_494 := n12_
                                have NB494_465 := n13_
                                clear n0_ n1_ n2_ n3_ n4_ n5_ n6_ n7_ n8_ n9_ n10_ n11_ n12_ n13_
                                clear hb hbox hg
                                refine hK.out _ _ trivial (fun hHeld => ?_)
                                clear hK K
                                refine norm_ (a' := ?_) ?_ ?_
                                rotate_left
                                · show Act.put _ (some 13) _ = _
                                  simp only [Act.put, List.setIfInBounds_toArray, List.set_cons_zero, List.set_cons_succ, i64_w, i32_w]
                                  rfl
                                refine one_ (i := 4) (N := some 67) #[true, true, true, true, true, false, false, false, true, false, false] rfl rfl (one_of HT_.out (by kernel_rfl)) (by decide) (fun K hK => ?_)
                                refine goes_ Try.func30 (by kernel_rfl) rfl #[.slice (some ⟨go28, 0, none⟩) y482.length co42, .slice A47 y486.length c47] (by rfl) rfl rfl (by (try simp only [List.map_toArray, List.map_cons, List.map_nil]); first | done | rfl | (simp only [List.length_drop, List.length_take]; rfl)) ?_
                                with_reducible refine (oob_Unpack.calls kj5 _ _ y482 _ _ y486 t490 t491 t492 t493 _ ?side1 ?side2 ?side3 ?side4 A31.out).mono ?_
                                (case side1 => repeat (first | exact (by repeat (first | (with_reducible exact HR485.out) | (with_reducible refine Kd.C_alloc ?_ _) | (with_reducible refine Kd.C_drewN ?_ _) | (with_reducible refine Kd.C_drew ?_) | exact HR485.out)) | (with_reducible refine Kd.C_alloc ?_ _) | (with_reducible refine Kd.C_drewN ?_ _) | (with_reducible refine Kd.C_drew ?_)))
                                (case side2 => exact HC485.out)
                                (case side3 => repeat (first | exact (by repeat (first | (with_reducible exact HR489.out) | (with_reducible refine Kd.C_alloc ?_ _) | (with_reducible refine Kd.C_drewN ?_ _) | (with_reducible refine Kd.C_drew ?_) | exact HR489.out)) | (with_reducible refine Kd.C_alloc ?_ _) | (with_reducible refine Kd.C_drewN ?_ _) | (with_reducible refine Kd.C_drew ?_)))
                                (case side4 => exact HC489.out)
                                rintro e w49 ⟨rfl, hb⟩
                                refine ⟨_, rfl, ?_⟩
                                have n0_ := Aside0.mk (Kd.R_below (by (with_reducible repeat (first | apply Kd.R_alloc | apply Kd.R_drewN | apply Kd.R_drew)); exact HO_8.out) hb)
                                have n1_ := Aside0.mk (Kd.R_below (by (with_reducible repeat (first | apply Kd.R_alloc | apply Kd.R_drewN | apply Kd.R_drew)); exact HO479.out) hb)
                                have n2_ := Aside0.mk (blk_below (g := gb464) (o := .cells #[.int .i64 a0_0, .int .i64 a0_1, .int .i64 a0_2] 31 (0, 0)) (by (with_reducible repeat (first | refine blk_drewN ?_ _ | refine blk_drew ?_ | refine blk_alloc ?_ _)); exact BK464.out) hb)
                                have n3_ := Aside0.mk (blk_below (g := gb465) (o := .cells #[.int .i64 a2_0, .int .i64 a2_1] 45 (0, 0)) (by (with_reducible repeat (first | refine blk_drewN ?_ _ | refine blk_drew ?_ | refine blk_alloc ?_ _)); exact BK465.out) hb)
                                have n4_ := Aside0.mk (Kd.C_below (by repeat (first | (with_reducible exact HR485.out) | (with_reducible refine Kd.C_alloc ?_ _) | (with_reducible refine Kd.C_drewN ?_ _) | (with_reducible refine Kd.C_drew ?_) | exact HR485.out)) hb)
                                have n5_ := Aside0.mk (Kd.C_below (by repeat (first | (with_reducible exact HR489.out) | (with_reducible refine Kd.C_alloc ?_ _) | (with_reducible refine Kd.C_drewN ?_ _) | (with_reducible refine Kd.C_drew ?_) | exact HR489.out)) hb)
                                have n6_ := Aside0.mk (blk_below (g := gb494) (o := .cells #[.int .i64 0, .int .i64 0, .int .i64 0] 31 (0, 0)) (by (with_reducible repeat (first | refine blk_drewN ?_ _ | refine blk_drew ?_ | refine blk_alloc ?_ _)); exact BK494.out) hb)
                                have n7_ := Aside0.mk (below_step (by repeat (first | (with_reducible first | exact HB.out | apply below_alloc | apply pw_below_drewN | apply below_drew1 | refine below_set ?_ GE464.out | refine below_set ?_ GE465.out | refine below_set ?_ GE494.out) | exact HB.out)) hb)
                                clear HO_8
                                clear HO479
                                clear BK464
                                clear BK465
                                clear HR485
                                clear HR489
                                clear BK494
                                clear HB
                                have HO_8 := n0_
                                have HO479 := n1_
                                have BK464 := n2_
                                have BK465 := n3_
                                have HR485 := n4_
                                have HR489 := n5_
                                have BK494 := n6_
                                have HB := n7_
                                clear n0_ n1_ n2_ n3_ n4_ n5_ n6_ n7_
                                (try clear hb)
                                (try clear hb2)
                                (try clear hk)
                                (try clear hi)
                                refine hK.out _ _ trivial (fun hHeld => ?_)
                                clear hK K
                                refine norm_ (a' := ?_) ?_ ?_
                                rotate_left
                                · show Act.put _ (some 67) _ = _
                                  simp only [Act.put, List.setIfInBounds_toArray, List.set_cons_zero, List.set_cons_succ, i64_w, i32_w]
                                  rfl
                                refine pure_ (i := 5) (N := some 62) (v := ?_) (a' := ?_) #[true, true, true, true, true, true, false, false, true, false, false] rfl rfl (any_of HT_.out (by kernel_rfl)) (fun _ _ _ h => h) (Or.inl ⟨by rfl, ?_⟩) ?_ ?_
                                rotate_left
                                · intro w'
                                  go_simp
                                  with_reducible rfl
                                rotate_left
                                · simp only [Act.put, List.setIfInBounds_toArray, List.set_cons_zero, List.set_cons_succ, i64_w, i32_w]
                                  rfl
                                refine pure_ (i := 6) (N := some 68) (v := ?_) (a' := ?_) #[true, true, true, true, true, true, true, false, true, false, false] rfl rfl (any_of HT_.out (by kernel_rfl)) (fun _ _ _ h => h) (Or.inl ⟨by rfl, ?_⟩) ?_ ?_
                                rotate_left
                                · intro w'
                                  go_simp
                                  with_reducible rfl
                                rotate_left
                                · simp only [Act.put, List.setIfInBounds_toArray, List.set_cons_zero, List.set_cons_succ, i64_w, i32_w]
                                  rfl
                                refine pure_ (i := 7) (N := some 69) (v := ?_) (a' := ?_) #[true, true, true, true, true, true, true, true, true, false, false] rfl rfl (any_of HT_.out (by kernel_rfl)) (fun _ _ _ h => h) (Or.inl ⟨by rfl, ?_⟩) ?_ ?_
                                rotate_left
                                · intro w'
                                  go_simp
                                  with_reducible rfl
                                rotate_left
                                · simp only [Act.put, List.setIfInBounds_toArray, List.set_cons_zero, List.set_cons_succ, i64_w, i32_w]
                                  rfl
                                exact norm_ (by simp only [putAll, Act.put, List.setIfInBounds_toArray, List.set_cons_zero, List.set_cons_succ]) (hCont (gb494) _ ⟨(by (with_reducible repeat (first | apply Kd.R_alloc | apply Kd.R_drewN | apply Kd.R_drew)); exact HO479.out), (by (with_reducible repeat (first | apply Kd.R_alloc | apply Kd.R_drewN | apply Kd.R_drew)); exact Kd.R_mono HO_8.out (fun _ hk => hk.2)), (by (with_reducible repeat (first | refine blk_drewN ?_ _ | refine blk_drew ?_ | refine blk_alloc ?_ _)); exact BK464.out), (by (with_reducible repeat (first | refine blk_drewN ?_ _ | refine blk_drew ?_ | refine blk_alloc ?_ _)); exact BK465.out), (by (with_reducible repeat (first | refine blk_drewN ?_ _ | refine blk_drew ?_ | refine blk_alloc ?_ _)); exact BK494.out), GW494.out, GE494.out, NB464_494.out, NB494_464.out, NB465_494.out, NB494_465.out, (by repeat (first | (with_reducible first | exact HB.out | apply below_alloc | apply pw_below_drewN | apply below_drew1 | refine below_set ?_ GE464.out | refine below_set ?_ GE465.out | refine below_set ?_ GE494.out) | exact HB.out))⟩)
                            rintro gb494 w50 ⟨h0_, h1_, h2_, h3_, h4_, h5_, h6_, h7_, h8_, h9_, h10_, h11_⟩
                            have n0_ : Aside0 (Kd.R (Kd.int .u8) 5 w50 w.heap.size (fun k_ => some k_ ≠ (.slice Ao35 t467.length co35 : Value).ownBlock) (.slice (some ⟨go28, 0, none⟩) y477.length co42) y481) := ⟨h0_⟩
                            have n1_ : Aside0 (Kd.R (Kd.int .u8) 5 w50 w.heap.size (fun k_ => some k_ ≠ (.slice (some ⟨go28, 0, none⟩) y477.length co42 : Value).ownBlock) (.slice Ao35 t467.length co35) t467) := ⟨h1_⟩
                            have n2_ : Aside0 (w50.heap[gb464]? = some (.cells #[.int .i64 a0_0, .int .i64 a0_1, .int .i64 a0_2] 31 (0, 0))) := ⟨h2_⟩
                            have n3_ : Aside0 (w50.heap[gb465]? = some (.cells #[.int .i64 a2_0, .int .i64 a2_1] 45 (0, 0))) := ⟨h3_⟩
                            have n4_ : Aside0 (w50.heap[gb494]? = some (.cells #[.int .i64 0, .int .i64 0, .int .i64 0] 31 (0, 0))) := ⟨h4_⟩
                            have n5_ : Aside0 (w.heap.size ≤ gb494) := ⟨h5_⟩
                            have n6_ : Aside0 (w.heap.size ≤ gb494) := ⟨h6_⟩
                            have n7_ : Aside0 (gb464 ≠ gb494) := ⟨h7_⟩
                            have n8_ : Aside0 (gb494 ≠ gb464) := ⟨h8_⟩
                            have n9_ : Aside0 (gb465 ≠ gb494) := ⟨h9_⟩
                            have n10_ : Aside0 (gb494 ≠ gb465) := ⟨h10_⟩
                            have n11_ : Aside0 (Below w.heap.size w w50) := ⟨h11_⟩
                            clear HO_8
                            clear HO479
                            clear BK464
                            clear BK465
                            clear HB
                            clear h0_ h1_ h2_ h3_ h4_ h5_ h6_ h7_ h8_ h9_ h10_ h11_
                            have HO479 := n0_
                            have HO_8 := n1_
                            have BK464 := n2_
                            have BK465 := n3_
                            have BK494 := n4_
                            have GW494 := n5_
                            have GE494 := n6_
                            have NB464_494 := n7_
                            have NB494_464 := n8_
                            have NB465_494 := n9_
                            have NB494_465 := n10_
                            have HB := n11_
                            clear n0_ n1_ n2_ n3_ n4_ n5_ n6_ n7_ n8_ n9_ n10_ n11_
                            have hHeld := trivial
                            refine norm_ (a' := ?_) ?_ ?_
                            rotate_left
                            · simp only [putAll, Act.put, List.setIfInBounds_toArray, List.set_cons_zero, List.set_cons_succ]
                              rfl
                            refine one_ (i := 9) (N := none) #[true, true, true, true, true, true, true, true, true, true, false] rfl rfl (one_of HT_.out (by kernel_rfl)) (by decide) (fun K hK => ?_)
                            have hs51 : w50.cell? ⟨gb494, 0, none⟩ = some (.int .i64 0) := (blk_cell BK494.out 0).trans rfl
                            have hfs51 := blk_frozen BK494.out 0
                            have hns51_0 := NB464_494.out
                            have hns51_1 := NB465_494.out
                            have hms51_0 := NB494_464.out
                            have hms51_1 := NB494_465.out
                            have hs52 : w50.cell? ⟨gb494, 1, none⟩ = some (.int .i64 0) := (blk_cell BK494.out 1).trans rfl
                            have hfs52 := blk_frozen BK494.out 1
                            have hns52_0 := NB464_494.out
                            have hns52_1 := NB465_494.out
                            have hms52_0 := NB494_464.out
                            have hms52_1 := NB494_465.out
                            have hs53 : w50.cell? ⟨gb494, 2, none⟩ = some (.int .i64 0) := (blk_cell BK494.out 2).trans rfl
                            have hfs53 := blk_frozen BK494.out 2
                            have hns53_0 := NB464_494.out
                            have hns53_1 := NB465_494.out
                            have hms53_0 := NB494_464.out
                            have hms53_1 := NB494_465.out
                            refine skip_ (w1 := ?_) (by rfl) rfl ?_ ?_
                            rotate_left
                            · go_simp
                              rfl
                            refine hK.out _ _ trivial (fun hHeld => ?_)
                            clear hK K
                            refine pure_ (i := 10) (N := some 14) (v := ?_) (a' := ?_) #[true, true, true, true, true, true, true, true, true, true, true] rfl rfl (any_of HT_.out (by kernel_rfl)) (fun _ _ _ h => h) (Or.inl ⟨by rfl, ?_⟩) ?_ ?_
                            rotate_left
                            · intro w'
                              go_simp
                              with_reducible rfl
                            rotate_left
                            · simp only [Act.put, List.setIfInBounds_toArray, List.set_cons_zero, List.set_cons_succ, i64_w, i32_w]
                              rfl
                            refine done_ (done_of HT_.out (by kernel_rfl)) ?_
                            have hnb54 := NB494_464.out
                            have hnc54 := NB464_494.out
                            have hnb55 := NB494_465.out
                            have hnc55 := NB465_494.out
                            have hcz56_0 : w50.cell? ⟨gb494, 0, none⟩ = some (.int .i64 0) := (blk_cell BK494.out 0).trans rfl
                            have hcz56_1 : w50.cell? ⟨gb494, 1, none⟩ = some (.int .i64 0) := (blk_cell BK494.out 1).trans rfl
                            have hcz56_2 : w50.cell? ⟨gb494, 2, none⟩ = some (.int .i64 0) := (blk_cell BK494.out 2).trans rfl
                            have hfz56_0 := blk_frozen BK494.out 0
                            have hfz56_1 := blk_frozen BK494.out 1
                            have hfz56_2 := blk_frozen BK494.out 2
                            try go_wp2
                            go_ret
                            exact ⟨by first | rfl | (simp [errW_none, errW_some] <;> rfl) | (simp only [← hji25]; first | rfl | (simp [errW_none, errW_some] <;> rfl)) | (simp [*, errW_none, errW_some] <;> rfl), by repeat (first | (with_reducible first | exact HB.out | apply below_alloc | apply pw_below_drewN | apply below_drew1 | refine below_set ?_ GE464.out | refine below_set ?_ GE465.out | refine below_set ?_ GE494.out) | exact HB.out)⟩
                          · rw [if_neg c34] at H
                            have c34b0 : (t493 == 3) = false := beq_eq_false_iff_ne.mpr c34
                            have c34b1 : (t493 != 3) = true := bne_iff_ne.mpr c34
                            obtain rfl := Option.some.inj H
                            obtain ⟨Ao57, co57, eo57⟩ := Kd.R_slice HO_8.out
                            subst eo57
                            try go_wp2_with (first | ((with_reducible refine gate_dst (N := 45) rfl ?_); (try (refine gate_guard (by rfl) ?_; dsimp only)); refine Kd.R_lit (Kd.int .u8) _ 5 ?hg (N := 45) ?hd (xs := ([] : List Int)) (inner := []) (ok := fun _ => True) (okp := fun _ => True) ?hr ?hp (fun _ hk => hk) trivial (Below.refl _ _) (Nat.le_refl _) (by simp) ?_; (case hd => rfl); (case hg => rfl); (case hr => first | (go_simp; done) | (go_simp; rfl)); (case hp => exact (Reps.none _ _)); intro v472 w58 ho59 hb hg_ hnew_; clear hg_ hnew_; (first | rw [← Ny471.out] at ho59 | (simp only [Int.reduceToNat] at ho59; rw [← Ny471.out] at ho59)); have n0_ := Aside0.mk (Kd.R_elder' (by (with_reducible repeat (first | apply Kd.R_alloc | apply Kd.R_drewN | apply Kd.R_drew)); exact HO_8.out) (Kd.R_base ho59) hb); have n1_ := Aside0.mk (Kd.R_lower (Kd.R_new' ho59 (Kd.R_lt (by (with_reducible repeat (first | apply Kd.R_alloc | apply Kd.R_drewN | apply Kd.R_drew)); exact HO_8.out))) (below_size (by repeat (first | (with_reducible first | exact HB.out | apply below_alloc | apply pw_below_drewN | apply below_drew1 | refine below_set ?_ GE464.out | refine below_set ?_ GE465.out) | exact HB.out)))); have n2_ := Aside0.mk (blk_below (g := gb464) (o := .cells #[.int .i64 a0_0, .int .i64 a0_1, .int .i64 a0_2] 31 (0, 0)) (by (with_reducible repeat (first | refine blk_drewN ?_ _ | refine blk_drew ?_ | refine blk_alloc ?_ _)); exact BK464.out) hb); have n3_ := Aside0.mk (blk_below (g := gb465) (o := .cells #[.int .i64 a2_0, .int .i64 a2_1] 45 (0, 0)) (by (with_reducible repeat (first | refine blk_drewN ?_ _ | refine blk_drew ?_ | refine blk_alloc ?_ _)); exact BK465.out) hb); have n4_ := Aside0.mk (below_step (by repeat (first | (with_reducible first | exact HB.out | apply below_alloc | apply pw_below_drewN | apply below_drew1 | refine below_set ?_ GE464.out | refine below_set ?_ GE465.out) | exact HB.out)) hb); clear HO_8; clear BK464; clear BK465; clear HB; have HO_8 := n0_; have HO473 := n1_; have BK464 := n2_; have BK465 := n3_; have HB := n4_; clear n0_ n1_ n2_ n3_ n4_; clear hb ho59) | ((with_reducible refine gate_builtin (b := .append) (xs := #[.tmp 45, .tmp 46]) rfl ?_); (try (refine gate_guard (by rfl) ?_; dsimp only)); at_builtin; refine Kd.R_append_rows (Kd.int .u8) (w0 := w) w.heap.size rfl (.tmp 45) (.tmp 46) 25 5 (.int .u8 0) 1 rfl Try.underlying25 info5 rfl (by decide) (by omega) v472 y471 t467 _ _ _ (fun k_ => some k_ ≠ (.slice Ao57 t467.length co57 : Value).ownBlock) (fun _ => False) rfl rfl ?aO ?aR (fun _ _ h => h) (fun _ h => h.elim) ?aF ?aB ?aS ?aL ?_; (case aR => repeat (first | exact (Kd.R_reads' HO_8.out).2.2 | (with_reducible refine Kd.C_alloc ?_ _) | (with_reducible refine Kd.C_drewN ?_ _) | (with_reducible refine Kd.C_drew ?_))); (case aB => exact (by repeat (first | (with_reducible first | exact HB.out | apply below_alloc | apply pw_below_drewN | apply below_drew1 | refine below_set ?_ GE464.out | refine below_set ?_ GE465.out) | exact HB.out))); (case aF => exact (fun k_ hk => Kd.fresh' (Kd.R_lt (by (with_reducible repeat (first | apply Kd.R_alloc | apply Kd.R_drewN | apply Kd.R_drew)); exact HO_8.out)) k_ hk)); (case aO => exact (by (with_reducible repeat (first | apply Kd.R_alloc | apply Kd.R_drewN | apply Kd.R_drew)); exact Kd.R_mono HO473.out (fun _ hk => hk.2))); (case aS => exact (below_size (by repeat (first | (with_reducible first | exact HB.out | apply below_alloc | apply pw_below_drewN | apply below_drew1 | refine below_set ?_ GE464.out | refine below_set ?_ GE465.out) | exact HB.out)))); (case aL => have := LMc23.out; omega); intro v475 w60 ho hb hg hat; rw [← Ny474.out] at ho; have n0_ := Aside0.mk (Kd.R_after (ok := (fun _ => True)) (by (with_reducible repeat (first | apply Kd.R_alloc | apply Kd.R_drewN | apply Kd.R_drew)); exact HO_8.out) hg hat); have n1_ := Aside0.mk (blk_grown (g := gb464) (o := .cells #[.int .i64 a0_0, .int .i64 a0_1, .int .i64 a0_2] 31 (0, 0)) (by (with_reducible repeat (first | refine blk_drewN ?_ _ | refine blk_drew ?_ | refine blk_alloc ?_ _)); exact BK464.out) hg (Kd.R_ne HO473.out BK464.out (by decide))); have n2_ := Aside0.mk (blk_grown (g := gb465) (o := .cells #[.int .i64 a2_0, .int .i64 a2_1] 45 (0, 0)) (by (with_reducible repeat (first | refine blk_drewN ?_ _ | refine blk_drew ?_ | refine blk_alloc ?_ _)); exact BK465.out) hg (Kd.R_ne HO473.out BK465.out (by decide))); have n3_ := Aside0.mk (hb); have n4_ := Aside0.mk (ho); clear HO_8; clear BK464; clear BK465; clear HB; clear HO473; have HO_8 := n0_; have BK464 := n1_; have BK465 := n2_; have HB := n3_; have HO476 := n4_; clear n0_ n1_ n2_ n3_ n4_; clear ho hb hg hat) | ((with_reducible refine gate_builtin (b := .append) (xs := #[.tmp 47, .tmp 48]) rfl ?_); (try (refine gate_guard (by rfl) ?_; dsimp only)); at_builtin; refine Kd.R_append_rows (Kd.int .u8) (w0 := w) w.heap.size rfl (.tmp 47) (.tmp 48) 25 5 (.int .u8 0) 1 rfl Try.underlying25 info5 rfl (by decide) (by omega) v475 y474 l1 _ _ _ (fun k_ => some k_ ≠ (.slice Ao57 t467.length co57 : Value).ownBlock) (fun _ => False) rfl rfl ?aO ?aR (fun _ _ h => h) (fun _ h => h.elim) ?aF ?aB ?aS ?aL ?_; (case aR => repeat (first | exact (Kd.C_below HR1.out HB.out) | (with_reducible refine Kd.C_alloc ?_ _) | (with_reducible refine Kd.C_drewN ?_ _) | (with_reducible refine Kd.C_drew ?_))); (case aB => exact (by repeat (first | (with_reducible first | exact HB.out | apply below_alloc | apply pw_below_drewN | apply below_drew1 | refine below_set ?_ GE464.out | refine below_set ?_ GE465.out) | exact HB.out))); (case aF => exact (fun k_ hk => Kd.fresh' (Kd.R_lt (by (with_reducible repeat (first | apply Kd.R_alloc | apply Kd.R_drewN | apply Kd.R_drew)); exact HO_8.out)) k_ hk)); (case aO => exact (by (with_reducible repeat (first | apply Kd.R_alloc | apply Kd.R_drewN | apply Kd.R_drew)); exact HO476.out)); (case aS => exact (below_size (by repeat (first | (with_reducible first | exact HB.out | apply below_alloc | apply pw_below_drewN | apply below_drew1 | refine below_set ?_ GE464.out | refine below_set ?_ GE465.out) | exact HB.out)))); (case aL => have := LMc24.out; omega); intro v478 w61 ho hb hg hat; rw [← Ny477.out] at ho; have n0_ := Aside0.mk (Kd.R_after (ok := (fun _ => True)) (by (with_reducible repeat (first | apply Kd.R_alloc | apply Kd.R_drewN | apply Kd.R_drew)); exact HO_8.out) hg hat); have n1_ := Aside0.mk (blk_grown (g := gb464) (o := .cells #[.int .i64 a0_0, .int .i64 a0_1, .int .i64 a0_2] 31 (0, 0)) (by (with_reducible repeat (first | refine blk_drewN ?_ _ | refine blk_drew ?_ | refine blk_alloc ?_ _)); exact BK464.out) hg (Kd.R_ne HO476.out BK464.out (by decide))); have n2_ := Aside0.mk (blk_grown (g := gb465) (o := .cells #[.int .i64 a2_0, .int .i64 a2_1] 45 (0, 0)) (by (with_reducible repeat (first | refine blk_drewN ?_ _ | refine blk_drew ?_ | refine blk_alloc ?_ _)); exact BK465.out) hg (Kd.R_ne HO476.out BK465.out (by decide))); have n3_ := Aside0.mk (hb); have n4_ := Aside0.mk (ho); clear HO_8; clear BK464; clear BK465; clear HB; clear HO476; have HO_8 := n0_; have BK464 := n1_; have BK465 := n2_; have HB := n3_; have HO479 := n4_; clear n0_ n1_ n2_ n3_ n4_; clear ho hb hg hat; have hnb62 := NB465_464.out; have hnc62 := NB464_465.out; have hcz63_0 : w61.cell? ⟨gb465, 0, none⟩ = some (.int .i64 a2_0) := (blk_cell BK465.out 0).trans rfl; have hcz63_1 : w61.cell? ⟨gb465, 1, none⟩ = some (.int .i64 a2_1) := (blk_cell BK465.out 1).trans rfl; have hfz63_0 := blk_frozen BK465.out 0; have hfz63_1 := blk_frozen BK465.out 1; obtain ⟨Ao64, co64, eo64⟩ := Kd.R_slice HO479.out; subst eo64; have p480 : 0 ≤ ((ji25) : Int) := of_decide_eq_true (by first | (with_reducible assumption) | assumption); have q480 : (ji25) < (y477.length : Int) := of_decide_eq_true (by first | (with_reducible assumption) | assumption); obtain ⟨ad480, e480, hx480_0⟩ := Kd.at_int (Kd.R_reads' HO479.out).2.2 (ji25) p480 q480; cases e480; replace p480 := eq_true p480; replace q480 := eq_true q480; have p28 : 0 ≤ ((ji25) : Int) := of_decide_eq_true (by first | (with_reducible assumption) | assumption); have q28 : ((ji25) : Int) < ((y477.length : Int) : Int) := of_decide_eq_true (by first | (with_reducible assumption) | assumption); obtain ⟨go28, co28, eo28, gb28, gl28, cl28, HG28⟩ := Kd.R_form HO479.out (by omega); (first | cases eo28 | (injection eo28 with ea_ en_ ec_; (first | subst ea_ | (injection ea_ with ea_; subst ea_)); subst ec_; clear en_)); have GB28 := Aside0.mk gb28; have GG28 := Aside0.mk HG28; clear gb28 gl28 HG28; (first | simp only [add_plain] at hx480_0 | skip); obtain ⟨hx28_0, hf28_0⟩ := Kd.R_celln 0 HO479.out ((ji25) : Int) p28 q28; replace p28 := eq_true p28; replace q28 := eq_true q28; obtain ⟨hy65_, hz65_⟩ := Kd.R_celln 0 HO479.out ((ji25) : Int) (of_decide_eq_true (by first | (with_reducible assumption) | assumption)) (of_decide_eq_true (by first | (with_reducible assumption) | assumption)); have HP65 := Kd.R_putg HO479.out ((ji25) : Int) (Go.bits .xor .u8 (rd y477 (ji25)) ((a2_1) % 256))) | ((with_reducible refine gate_store (t := 5) (p := 61) rfl ?_); refine store_event (t := 5) (p := 61) (v := ?vo_w66) (w1 := (w61.setCell ⟨go28, ((ji25) : Int).toNat, none⟩ (.int .u8 (Go.bits .xor .u8 (rd y477 (ji25)) ((a2_1) % 256))))) ?hg ?ho ?hn ?hr ?_; (case ho => rfl); (case hg => rfl); (case hn => rfl); (case hr => first | (go_simp; done) | (go_simp; rfl)); intro w66 hw; have hg : w61.grownBy w66 (some go28) := (by rw [hw]; exact HP65.2); have hp_ : Kd.R (Kd.int .u8) 5 w66 w.heap.size (fun k_ => some k_ ≠ (.slice Ao57 t467.length co57 : Value).ownBlock) (.slice (some ⟨go28, 0, none⟩) y477.length co64) y481 := (by rw [hw, Ny481.out]; exact HP65.1); clear HP65; have n0_ := Aside0.mk (Kd.R_after (v := (.slice (some ⟨go28, 0, none⟩) y477.length co64)) (v1 := (.slice (some ⟨go28, 0, none⟩) y477.length co64)) (ok := (fun _ => True)) (by (with_reducible repeat (first | apply Kd.R_alloc | apply Kd.R_drewN | apply Kd.R_drew)); exact HO_8.out) hg (.inl rfl)); have n1_ := Aside0.mk (blk_grown (g := gb464) (o := .cells #[.int .i64 a0_0, .int .i64 a0_1, .int .i64 a0_2] 31 (0, 0)) (by (with_reducible repeat (first | refine blk_drewN ?_ _ | refine blk_drew ?_ | refine blk_alloc ?_ _)); exact BK464.out) hg (Kd.R_ne HO479.out BK464.out (by decide))); have n2_ := Aside0.mk (blk_grown (g := gb465) (o := .cells #[.int .i64 a2_0, .int .i64 a2_1] 45 (0, 0)) (by (with_reducible repeat (first | refine blk_drewN ?_ _ | refine blk_drew ?_ | refine blk_alloc ?_ _)); exact BK465.out) hg (Kd.R_ne HO479.out BK465.out (by decide))); have n3_ := Aside0.mk (hp_); have n4_ := Aside0.mk ((by rw [hw]; exact below_set (HB.out) GB28.out : Below w.heap.size w w66)); clear HO_8; clear BK464; clear BK465; clear HO479; clear HB; have HO_8 := n0_; have BK464 := n1_; have BK465 := n2_; have HO479 := n3_; have HB := n4_; clear n0_ n1_ n2_ n3_ n4_; clear hg hw hp_))
                            (try (rw [drewN_self w66]; generalize hq_ : World.drewN w66 _ = w66; have n0_ : Aside0 (Kd.R (Kd.int .u8) 5 w66 w.heap.size (fun k_ => some k_ ≠ (.slice Ao57 t467.length co57 : Value).ownBlock) (.slice (some ⟨go28, 0, none⟩) y477.length co64) y481) := ⟨by rw [← hq_]; exact (by (with_reducible repeat (first | apply Kd.R_alloc | apply Kd.R_drewN | apply Kd.R_drew)); exact HO479.out)⟩; have n1_ : Aside0 (Kd.R (Kd.int .u8) 5 w66 w.heap.size (fun k_ => some k_ ≠ (.slice (some ⟨go28, 0, none⟩) y477.length co64 : Value).ownBlock) (.slice Ao57 t467.length co57) t467) := ⟨by rw [← hq_]; exact (by (with_reducible repeat (first | apply Kd.R_alloc | apply Kd.R_drewN | apply Kd.R_drew)); exact Kd.R_mono HO_8.out (fun _ hk => hk.2))⟩; have n2_ : Aside0 (w66.heap[gb464]? = some (.cells #[.int .i64 a0_0, .int .i64 a0_1, .int .i64 a0_2] 31 (0, 0))) := ⟨by rw [← hq_]; exact (by (with_reducible repeat (first | refine blk_drewN ?_ _ | refine blk_drew ?_ | refine blk_alloc ?_ _)); exact BK464.out)⟩; have n3_ : Aside0 (w66.heap[gb465]? = some (.cells #[.int .i64 a2_0, .int .i64 a2_1] 45 (0, 0))) := ⟨by rw [← hq_]; exact (by (with_reducible repeat (first | refine blk_drewN ?_ _ | refine blk_drew ?_ | refine blk_alloc ?_ _)); exact BK465.out)⟩; have n4_ : Aside0 (Below w.heap.size w w66) := ⟨by rw [← hq_]; exact (by repeat (first | (with_reducible first | exact HB.out | apply below_alloc | apply pw_below_drewN | apply below_drew1 | refine below_set ?_ GE464.out | refine below_set ?_ GE465.out) | exact HB.out))⟩; clear HO479 HO_8 BK464 BK465 HB hq_; have HO479 := n0_; have HO_8 := n1_; have BK464 := n2_; have BK465 := n3_; have HB := n4_; clear n0_ n1_ n2_ n3_ n4_))
                            have n0_ := Aside0.mk (Kd.R_drew HO_8.out)
                            have n1_ := Aside0.mk (Kd.R_drew HO479.out)
                            have n2_ := Aside0.mk (blk_drew BK464.out)
                            have n3_ := Aside0.mk (blk_drew BK465.out)
                            have n4_ := Aside0.mk (below_drew1 HB.out)
                            clear HO_8
                            clear HO479
                            clear BK464
                            clear BK465
                            clear HB
                            have HO_8 := n0_
                            have HO479 := n1_
                            have BK464 := n2_
                            have BK465 := n3_
                            have HB := n4_
                            clear n0_ n1_ n2_ n3_ n4_
                            have hlx68 := (Kd.R_reads' HO479.out).1
                            have q68 : (17 : Int) ≤ ((y477.length : Int) : Int) := of_decide_eq_true (by first | (with_reducible assumption) | assumption)
                            obtain ⟨i068, hi068, _, hsz68, _⟩ := info_parts info5
                            have hroom68 : y477.length ≤ co64 := (Kd.R_reads' HO479.out).2.1
                            have hroomc68 : y481.length ≤ co64 := (by rw [← hlx68]; exact hroom68)
                            have hC68 : Kd.C (Kd.int .u8) _ (some ⟨go28, 0, none⟩) y481.length y481 := (Kd.R_reads' HO479.out).2.2
                            have hcut68 := cut_to (P := Try.prog) 25 5 .i64 Try.underlying25 hi068 (some ⟨go28, 0, none⟩) y477.length co64 17 (by omega) q68 hroom68
                            have hr68 := Kd.C_take (m := 17) hC68 (by omega)
                            have hy68 : y482.length = (17 : Int).toNat := (by rw [Ny482.out, List.length_take]; omega)
                            rw [← Ny482.out] at hr68
                            rw [← hy68] at hcut68
                            have HR485 := Aside0.mk hr68
                            have HC485 := Aside0.mk (show y482.length ≤ co64 from by omega)
                            clear hr68 hC68 hroom68 hi068 hsz68 hroomc68
                            have KY68 := Aside0.mk hy68
                            clear hy68
                            have KE68 := Aside0.mk hlx68
                            have KL68 := Aside0.mk (show 17 ≤ y481.length from by omega)
                            clear hlx68
                            replace q68 := eq_true q68
                            have hlx69 := (Kd.R_reads' HO479.out).1
                            have q69 : (17 : Int) ≤ ((y477.length : Int) : Int) := of_decide_eq_true (by first | (with_reducible assumption) | assumption)
                            obtain ⟨i069, hi069, _, hsz69, _⟩ := info_parts info5
                            have hroom69 : y477.length ≤ co64 := (Kd.R_reads' HO479.out).2.1
                            have hroomc69 : y481.length ≤ co64 := (by rw [← hlx69]; exact hroom69)
                            have hC69 : Kd.C (Kd.int .u8) _ (some ⟨go28, 0, none⟩) y481.length y481 := (Kd.R_reads' HO479.out).2.2
                            have hcut69 := cut_from (P := Try.prog) 25 5 .i64 Try.underlying25 hi069 1 hsz69 (some ⟨go28, 0, none⟩) y477.length co64 17 (by omega) q69
                            have hr69 := Kd.C_drop (m := (17 : Int).toNat) (c := co64) hC69 (by omega) hroomc69
                            obtain ⟨A69, hA69⟩ : ∃ A1, A1 = (if co64 = (17 : Int).toNat then (some ⟨go28, 0, none⟩) else ((some ⟨go28, 0, none⟩) : Option Addr).map (·.add ((17 : Int).toNat * 1))) := ⟨_, rfl⟩
                            obtain ⟨c69, hc69⟩ : ∃ c1, c1 = co64 - (17 : Int).toNat := ⟨_, rfl⟩
                            have hy69 : y486.length = y477.length - (17 : Int).toNat := (by rw [Ny486.out, List.length_drop] <;> omega)
                            rw [show (y481).drop (17 : Int).toNat = y486 from Ny486.out.symm] at hr69
                            replace hr69 : Kd.C (Kd.int .u8) _ A69 y486.length y486 := (by rw [hA69]; exact hr69)
                            rw [← hy69, ← hA69, ← hc69] at hcut69
                            have HR489 := Aside0.mk hr69
                            have HC489 := Aside0.mk (show y486.length ≤ c69 from by rw [hy69, hc69]; exact Nat.sub_le_sub_right hroom69 _)
                            clear hr69 hC69 hroom69 hi069 hsz69 hc69 hroomc69
                            have KY69 := Aside0.mk hy69
                            have KA69 := Aside0.mk hA69
                            clear hy69 hA69
                            have KE69 := Aside0.mk hlx69
                            have KL69 := Aside0.mk (show 17 ≤ y481.length from by omega)
                            clear hlx69
                            replace q69 := eq_true q69
                            refine start_ (n := 11) (S := fun w' => True) (ds := []) #[false, false, false, false, false, false, false, false, false, false, false] (by kernel_rfl) rfl rfl trivial (fun hHeld => ?_); refine with_tabW strakelaw05_OobTurned.tab11 strakelaw05_OobTurned.bits11 (fun HT_ HW_ => ?_)
                            generalize w66.drew = w67 at HO_8 HO479 BK464 BK465 HB HR485 HR489 hHeld ⊢
                            refine pure_ (i := 0) (N := some 63) (v := ?_) (a' := ?_) #[true, false, false, false, false, false, false, false, false, false, false] rfl rfl (any_of HT_.out (by kernel_rfl)) (fun _ _ _ h => h) (Or.inl ⟨by rfl, ?_⟩) ?_ ?_
                            rotate_left
                            · intro w'
                              go_simp
                              with_reducible rfl
                            rotate_left
                            · simp only [Act.put, List.setIfInBounds_toArray, List.set_cons_zero, List.set_cons_succ, i64_w, i32_w]
                              rfl
                            refine pure_ (i := 1) (N := some 64) (v := ?_) (a' := ?_) #[true, true, false, false, false, false, false, false, false, false, false] rfl rfl (any_of HT_.out (by kernel_rfl)) (fun _ _ _ h => h) (Or.inl ⟨by rfl, ?_⟩) ?_ ?_
                            rotate_left
                            · intro w'
                              go_simp
                              with_reducible rfl
                            rotate_left
                            · simp only [Act.put, List.setIfInBounds_toArray, List.set_cons_zero, List.set_cons_succ, i64_w, i32_w]
                              rfl
                            refine pure_ (i := 2) (N := some 65) (v := ?_) (a' := ?_) #[true, true, true, false, false, false, false, false, false, false, false] rfl rfl (any_of HT_.out (by kernel_rfl)) (fun _ _ _ h => h) (Or.inl ⟨by rfl, ?_⟩) ?_ ?_
                            rotate_left
                            · intro w'
                              go_simp
                              with_reducible rfl
                            rotate_left
                            · simp only [Act.put, List.setIfInBounds_toArray, List.set_cons_zero, List.set_cons_succ, i64_w, i32_w]
                              rfl
                            refine pure_ (i := 3) (N := some 66) (v := ?_) (a' := ?_) #[true, true, true, true, false, false, false, false, false, false, false] rfl rfl (any_of HT_.out (by kernel_rfl)) (fun _ _ _ h => h) (Or.inl ⟨by rfl, ?_⟩) ?_ ?_
                            rotate_left
                            · intro w'
                              go_simp
                              with_reducible rfl
                            rotate_left
                            · simp only [Act.put, List.setIfInBounds_toArray, List.set_cons_zero, List.set_cons_succ, i64_w, i32_w]
                              rfl
                            refine join_ (σ := Nat) 2 #[true, true, true, true, true, true, true, true, true, false, false] (fun s_ => [(67, .tuple #[.agg #[.int .i64 t490, .int .i64 t491, .int .i64 t492], .int .i64 t493]), (13, .pointer (some ⟨s_, 0, none⟩)), (62, .tuple #[.agg #[.int .i64 t490, .int .i64 t491, .int .i64 t492], .int .i64 t493]), (68, .agg #[.int .i64 t490, .int .i64 t491, .int .i64 t492]), (69, .int .i64 t493)]) (fun s_ w' => (Kd.R (Kd.int .u8) 5 w' w.heap.size (fun k_ => some k_ ≠ (.slice Ao57 t467.length co57 : Value).ownBlock) (.slice (some ⟨go28, 0, none⟩) y477.length co64) y481) ∧ (Kd.R (Kd.int .u8) 5 w' w.heap.size (fun k_ => some k_ ≠ (.slice (some ⟨go28, 0, none⟩) y477.length co64 : Value).ownBlock) (.slice Ao57 t467.length co57) t467) ∧ (w'.heap[gb464]? = some (.cells #[.int .i64 a0_0, .int .i64 a0_1, .int .i64 a0_2] 31 (0, 0))) ∧ (w'.heap[gb465]? = some (.cells #[.int .i64 a2_0, .int .i64 a2_1] 45 (0, 0))) ∧ (w'.heap[s_]? = some (.cells #[.int .i64 0, .int .i64 0, .int .i64 0] 31 (0, 0))) ∧ (w.heap.size ≤ s_) ∧ (w.heap.size ≤ s_) ∧ (gb464 ≠ s_) ∧ (s_ ≠ gb464) ∧ (gb465 ≠ s_) ∧ (s_ ≠ gb465) ∧ (Below w.heap.size w w')) ?_ ?_
                            rotate_left
                            · intro hCont
                              refine two_ (i := 4) (j := 8) (Ni := some 67) (Nj := some 13) #[true, true, true, true, true, false, false, false, false, false, false] #[true, true, true, true, false, false, false, false, true, false, false] rfl rfl rfl rfl (two_of HT_.out (by kernel_rfl)) (by decide) (by decide) (fun K hK => ?_) (fun K hK => ?_)
                              · skip
                                refine goes_ Try.func30 (by kernel_rfl) rfl #[.slice (some ⟨go28, 0, none⟩) y482.length co64, .slice A69 y486.length c69] (by rfl) rfl rfl (by (try simp only [List.map_toArray, List.map_cons, List.map_nil]); first | done | rfl | (simp only [List.length_drop, List.length_take]; rfl)) ?_
                                with_reducible refine (oob_Unpack.calls kj5 _ _ y482 _ _ y486 t490 t491 t492 t493 _ ?side1 ?side2 ?side3 ?side4 A31.out).mono ?_
                                (case side1 => repeat (first | exact (by repeat (first | (with_reducible exact HR485.out) | (with_reducible refine Kd.C_alloc ?_ _) | (with_reducible refine Kd.C_drewN ?_ _) | (with_reducible refine Kd.C_drew ?_) | exact HR485.out)) | (with_reducible refine Kd.C_alloc ?_ _) | (with_reducible refine Kd.C_drewN ?_ _) | (with_reducible refine Kd.C_drew ?_)))
                                (case side2 => exact HC485.out)
                                (case side3 => repeat (first | exact (by repeat (first | (with_reducible exact HR489.out) | (with_reducible refine Kd.C_alloc ?_ _) | (with_reducible refine Kd.C_drewN ?_ _) | (with_reducible refine Kd.C_drew ?_) | exact HR489.out)) | (with_reducible refine Kd.C_alloc ?_ _) | (with_reducible refine Kd.C_drewN ?_ _) | (with_reducible refine Kd.C_drew ?_)))
                                (case side4 => exact HC489.out)
                                rintro e w70 ⟨rfl, hb⟩
                                refine ⟨_, rfl, ?_⟩
                                have n0_ := Aside0.mk (Kd.R_below (by (with_reducible repeat (first | apply Kd.R_alloc | apply Kd.R_drewN | apply Kd.R_drew)); exact HO_8.out) hb)
                                have n1_ := Aside0.mk (Kd.R_below (by (with_reducible repeat (first | apply Kd.R_alloc | apply Kd.R_drewN | apply Kd.R_drew)); exact HO479.out) hb)
                                have n2_ := Aside0.mk (blk_below (g := gb464) (o := .cells #[.int .i64 a0_0, .int .i64 a0_1, .int .i64 a0_2] 31 (0, 0)) (by (with_reducible repeat (first | refine blk_drewN ?_ _ | refine blk_drew ?_ | refine blk_alloc ?_ _)); exact BK464.out) hb)
                                have n3_ := Aside0.mk (blk_below (g := gb465) (o := .cells #[.int .i64 a2_0, .int .i64 a2_1] 45 (0, 0)) (by (with_reducible repeat (first | refine blk_drewN ?_ _ | refine blk_drew ?_ | refine blk_alloc ?_ _)); exact BK465.out) hb)
                                have n4_ := Aside0.mk (Kd.C_below (by repeat (first | (with_reducible exact HR485.out) | (with_reducible refine Kd.C_alloc ?_ _) | (with_reducible refine Kd.C_drewN ?_ _) | (with_reducible refine Kd.C_drew ?_) | exact HR485.out)) hb)
                                have n5_ := Aside0.mk (Kd.C_below (by repeat (first | (with_reducible exact HR489.out) | (with_reducible refine Kd.C_alloc ?_ _) | (with_reducible refine Kd.C_drewN ?_ _) | (with_reducible refine Kd.C_drew ?_) | exact HR489.out)) hb)
                                have n6_ := Aside0.mk (below_step (by repeat (first | (with_reducible first | exact HB.out | apply below_alloc | apply pw_below_drewN | apply below_drew1 | refine below_set ?_ GE464.out | refine below_set ?_ GE465.out) | exact HB.out)) hb)
                                clear HO_8
                                clear HO479
                                clear BK464
                                clear BK465
                                clear HR485
                                clear HR489
                                clear HB
                                have HO_8 := n0_
                                have HO479 := n1_
                                have BK464 := n2_
                                have BK465 := n3_
                                have HR485 := n4_
                                have HR489 := n5_
                                have HB := n6_
                                clear n0_ n1_ n2_ n3_ n4_ n5_ n6_
                                (try clear hb)
                                (try clear hb2)
                                (try clear hk)
                                (try clear hi)
                                refine hK.out _ _ trivial (fun hHeld => ?_)
                                clear hK K
                                refine norm_ (a' := ?_) ?_ ?_
                                rotate_left
                                · show Act.put _ (some 67) _ = _
                                  simp only [Act.put, List.setIfInBounds_toArray, List.set_cons_zero, List.set_cons_succ, i64_w, i32_w]
                                  rfl
                                refine pure_ (i := 5) (N := some 62) (v := ?_) (a' := ?_) #[true, true, true, true, true, true, false, false, false, false, false] rfl rfl (any_of HT_.out (by kernel_rfl)) (fun _ _ _ h => h) (Or.inl ⟨by rfl, ?_⟩) ?_ ?_
                                rotate_left
                                · intro w'
                                  go_simp
                                  with_reducible rfl
                                rotate_left
                                · simp only [Act.put, List.setIfInBounds_toArray, List.set_cons_zero, List.set_cons_succ, i64_w, i32_w]
                                  rfl
                                refine pure_ (i := 6) (N := some 68) (v := ?_) (a' := ?_) #[true, true, true, true, true, true, true, false, false, false, false] rfl rfl (any_of HT_.out (by kernel_rfl)) (fun _ _ _ h => h) (Or.inl ⟨by rfl, ?_⟩) ?_ ?_
                                rotate_left
                                · intro w'
                                  go_simp
                                  with_reducible rfl
                                rotate_left
                                · simp only [Act.put, List.setIfInBounds_toArray, List.set_cons_zero, List.set_cons_succ, i64_w, i32_w]
                                  rfl
                                refine pure_ (i := 7) (N := some 69) (v := ?_) (a' := ?_) #[true, true, true, true, true, true, true, true, false, false, false] rfl rfl (any_of HT_.out (by kernel_rfl)) (fun _ _ _ h => h) (Or.inl ⟨by rfl, ?_⟩) ?_ ?_
                                rotate_left
                                · intro w'
                                  go_simp
                                  with_reducible rfl
                                rotate_left
                                · simp only [Act.put, List.setIfInBounds_toArray, List.set_cons_zero, List.set_cons_succ, i64_w, i32_w]
                                  rfl
                                refine one_ (i := 8) (N := some 13) #[true, true, true, true, true, true, true, true, true, false, false] rfl rfl (one_of HT_.out (by kernel_rfl)) (by decide) (fun K hK => ?_)
                                refine box_step ?hg (N := 13) ?hd (cs := #[.int .i64 0, .int .i64 0, .int .i64 0]) (t := 31) ?hr ?_; (case hd => rfl); (case hg => rfl); (case hr => first | (go_simp; done) | (go_simp; rfl))
                                intro gb494 hg w71 hbox hb
                                have n0_ := Aside0.mk (Kd.R_below (by (with_reducible repeat (first | apply Kd.R_alloc | apply Kd.R_drewN | apply Kd.R_drew)); exact HO_8.out) hb)
                                have n1_ := Aside0.mk (Kd.R_below (by (with_reducible repeat (first | apply Kd.R_alloc | apply Kd.R_drewN | apply Kd.R_drew)); exact HO479.out) hb)
                                have n2_ := Aside0.mk (blk_below (g := gb464) (o := .cells #[.int .i64 a0_0, .int .i64 a0_1, .int .i64 a0_2] 31 (0, 0)) (by (with_reducible repeat (first | refine blk_drewN ?_ _ | refine blk_drew ?_ | refine blk_alloc ?_ _)); exact BK464.out) hb)
                                have n3_ := Aside0.mk (blk_below (g := gb465) (o := .cells #[.int .i64 a2_0, .int .i64 a2_1] 45 (0, 0)) (by (with_reducible repeat (first | refine blk_drewN ?_ _ | refine blk_drew ?_ | refine blk_alloc ?_ _)); exact BK465.out) hb)
                                have n4_ := Aside0.mk (Kd.C_below (by repeat (first | (with_reducible exact HR485.out) | (with_reducible refine Kd.C_alloc ?_ _) | (with_reducible refine Kd.C_drewN ?_ _) | (with_reducible refine Kd.C_drew ?_) | exact HR485.out)) hb)
                                have n5_ := Aside0.mk (Kd.C_below (by repeat (first | (with_reducible exact HR489.out) | (with_reducible refine Kd.C_alloc ?_ _) | (with_reducible refine Kd.C_drewN ?_ _) | (with_reducible refine Kd.C_drew ?_) | exact HR489.out)) hb)
                                have n6_ := Aside0.mk (below_step (by repeat (first | (with_reducible first | exact HB.out | apply below_alloc | apply pw_below_drewN | apply below_drew1 | refine below_set ?_ GE464.out | refine below_set ?_ GE465.out) | exact HB.out)) hb)
                                have n7_ := Aside0.mk (hbox)
                                have n8_ := Aside0.mk ((by rw [hg]; exact (below_size (by repeat (first | (with_reducible first | exact HB.out | apply below_alloc | apply pw_below_drewN | apply below_drew1 | refine below_set ?_ GE464.out | refine below_set ?_ GE465.out) | exact HB.out))) : w.heap.size ≤ gb494))
                                have n9_ := Aside0.mk ((by rw [hg]; exact (below_size (by repeat (first | (with_reducible first | exact HB.out | apply below_alloc | apply pw_below_drewN | apply below_drew1 | refine below_set ?_ GE464.out | refine below_set ?_ GE465.out) | exact HB.out))) : w.heap.size ≤ gb494))
                                have n10_ := Aside0.mk ((by rw [hg]; exact Nat.ne_of_lt (blk_lt (g := gb464) (o := .cells #[.int .i64 a0_0, .int .i64 a0_1, .int .i64 a0_2] 31 (0, 0)) (by (with_reducible repeat (first | refine blk_drewN ?_ _ | refine blk_drew ?_ | refine blk_alloc ?_ _)); exact BK464.out)) : gb464 ≠ gb494))
                                have n11_ := Aside0.mk ((by rw [hg]; exact Nat.ne_of_gt (blk_lt (g := gb464) (o := .cells #[.int .i64 a0_0, .int .i64 a0_1, .int .i64 a0_2] 31 (0, 0)) (by (with_reducible repeat (first | refine blk_drewN ?_ _ | refine blk_drew ?_ | refine blk_alloc ?_ _)); exact BK464.out)) : gb494 ≠ gb464))
                                have n12_ := Aside0.mk ((by rw [hg]; exact Nat.ne_of_lt (blk_lt (g := gb465) (o := .cells #[.int .i64 a2_0, .int .i64 a2_1] 45 (0, 0)) (by (with_reducible repeat (first | refine blk_drewN ?_ _ | refine blk_drew ?_ | refine blk_alloc ?_ _)); exact BK465.out)) : gb465 ≠ gb494))
                                have n13_ := Aside0.mk ((by rw [hg]; exact Nat.ne_of_gt (blk_lt (g := gb465) (o := .cells #[.int .i64 a2_0, .int .i64 a2_1] 45 (0, 0)) (by (with_reducible repeat (first | refine blk_drewN ?_ _ | refine blk_drew ?_ | refine blk_alloc ?_ _)); exact BK465.out)) : gb494 ≠ gb465))
                                clear HO_8
                                clear HO479
                                clear BK464
                                clear BK465
                                clear HR485
                                clear HR489
                                clear HB
                                have HO_8 := n0_
                                have HO479 := n1_
                                have BK464 := n2_
                                have BK465 := n3_
                                have HR485 := n4_
                                have HR489 := n5_
                                have HB := n6_
                                have BK494 := n7_
                                have GW494 := n8_
                                have GE494 := n9_
                                have NB464_494 := n10_
                                have NB494_464 := n11_
                                have NB465_494 := n12_
                                have NB494_465 := n13_
                                clear n0_ n1_ n2_ n3_ n4_ n5_ n6_ n7_ n8_ n9_ n10_ n11_ n12_ n13_
                                clear hb hbox hg
                                refine hK.out _ _ trivial (fun hHeld => ?_)
                                clear hK K
                                refine norm_ (a' := ?_) ?_ ?_
                                rotate_left
                                · show Act.put _ (some 13) _ = _
                                  simp only [Act.put, List.setIfInBounds_toArray, List.set_cons_zero, List.set_cons_succ, i64_w, i32_w]
                                  rfl
                                exact norm_ (by simp only [putAll, Act.put, List.setIfInBounds_toArray, List.set_cons_zero, List.set_cons_succ]) (hCont (gb494) _ ⟨(by (with_reducible repeat (first | apply Kd.R_alloc | apply Kd.R_drewN | apply Kd.R_drew)); exact HO479.out), (by (with_reducible repeat (first | apply Kd.R_alloc | apply Kd.R_drewN | apply Kd.R_drew)); exact Kd.R_mono HO_8.out (fun _ hk => hk.2)), (by (with_reducible repeat (first | refine blk_drewN ?_ _ | refine blk_drew ?_ | refine blk_alloc ?_ _)); exact BK464.out), (by (with_reducible repeat (first | refine blk_drewN ?_ _ | refine blk_drew ?_ | refine blk_alloc ?_ _)); exact BK465.out), (by (with_reducible repeat (first | refine blk_drewN ?_ _ | refine blk_drew ?_ | refine blk_alloc ?_ _)); exact BK494.out), GW494.out, GE494.out, NB464_494.out, NB494_464.out, NB465_494.out, NB494_465.out, (by repeat (first | (with_reducible first | exact HB.out | apply below_alloc | apply pw_below_drewN | apply below_drew1 | refine below_set ?_ GE464.out | refine below_set ?_ GE465.out | refine below_set ?_ GE494.out) | exact HB.out))⟩)
                              · skip
                                refine box_step ?hg (N := 13) ?hd (cs := #[.int .i64 0, .int .i64 0, .int .i64 0]) (t := 31) ?hr ?_; (case hd => rfl); (case hg => rfl); (case hr => first | (go_simp; done) | (go_simp; rfl))
                                intro gb494 hg w70 hbox hb
                                have n0_ := Aside0.mk (Kd.R_below (by (with_reducible repeat (first | apply Kd.R_alloc | apply Kd.R_drewN | apply Kd.R_drew)); exact HO_8.out) hb)
                                have n1_ := Aside0.mk (Kd.R_below (by (with_reducible repeat (first | apply Kd.R_alloc | apply Kd.R_drewN | apply Kd.R_drew)); exact HO479.out) hb)
                                have n2_ := Aside0.mk (blk_below (g := gb464) (o := .cells #[.int .i64 a0_0, .int .i64 a0_1, .int .i64 a0_2] 31 (0, 0)) (by (with_reducible repeat (first | refine blk_drewN ?_ _ | refine blk_drew ?_ | refine blk_alloc ?_ _)); exact BK464.out) hb)
                                have n3_ := Aside0.mk (blk_below (g := gb465) (o := .cells #[.int .i64 a2_0, .int .i64 a2_1] 45 (0, 0)) (by (with_reducible repeat (first | refine blk_drewN ?_ _ | refine blk_drew ?_ | refine blk_alloc ?_ _)); exact BK465.out) hb)
                                have n4_ := Aside0.mk (Kd.C_below (by repeat (first | (with_reducible exact HR485.out) | (with_reducible refine Kd.C_alloc ?_ _) | (with_reducible refine Kd.C_drewN ?_ _) | (with_reducible refine Kd.C_drew ?_) | exact HR485.out)) hb)
                                have n5_ := Aside0.mk (Kd.C_below (by repeat (first | (with_reducible exact HR489.out) | (with_reducible refine Kd.C_alloc ?_ _) | (with_reducible refine Kd.C_drewN ?_ _) | (with_reducible refine Kd.C_drew ?_) | exact HR489.out)) hb)
                                have n6_ := Aside0.mk (below_step (by repeat (first | (with_reducible first | exact HB.out | apply below_alloc | apply pw_below_drewN | apply below_drew1 | refine below_set ?_ GE464.out | refine below_set ?_ GE465.out) | exact HB.out)) hb)
                                have n7_ := Aside0.mk (hbox)
                                have n8_ := Aside0.mk ((by rw [hg]; exact (below_size (by repeat (first | (with_reducible first | exact HB.out | apply below_alloc | apply pw_below_drewN | apply below_drew1 | refine below_set ?_ GE464.out | refine below_set ?_ GE465.out) | exact HB.out))) : w.heap.size ≤ gb494))
                                have n9_ := Aside0.mk ((by rw [hg]; exact (below_size (by repeat (first | (with_reducible first | exact HB.out | apply below_alloc | apply pw_below_drewN | apply below_drew1 | refine below_set ?_ GE464.out | refine below_set ?_ GE465.out) | exact HB.out))) : w.heap.size ≤ gb494))
                                have n10_ := Aside0.mk ((by rw [hg]; exact Nat.ne_of_lt (blk_lt (g := gb464) (o := .cells #[.int .i64 a0_0, .int .i64 a0_1, .int .i64 a0_2] 31 (0, 0)) (by (with_reducible repeat (first | refine blk_drewN ?_ _ | refine blk_drew ?_ | refine blk_alloc ?_ _)); exact BK464.out)) : gb464 ≠ gb494))
                                have n11_ := Aside0.mk ((by rw [hg]; exact Nat.ne_of_gt (blk_lt (g := gb464) (o := .cells #[.int .i64 a0_0, .int .i64 a0_1, .int .i64 a0_2] 31 (0, 0)) (by (with_reducible repeat (first | refine blk_drewN ?_ _ | refine blk_drew ?_ | refine blk_alloc ?_ _)); exact BK464.out)) : gb494 ≠ gb464))
                                have n12_ := Aside0.mk ((by rw [hg]; exact Nat.ne_of_lt (blk_lt (g := gb465) (o := .cells #[.int .i64 a2_0, .int .i64 a2_1] 45 (0, 0)) (by (with_reducible repeat (first | refine blk_drewN ?_ _ | refine blk_drew ?_ | refine blk_alloc ?_ _)); exact BK465.out)) : gb465 ≠ gb494))
                                have n13_ := Aside0.mk ((by rw [hg]; exact Nat.ne_of_gt (blk_lt (g := gb465) (o := .cells #[.int .i64 a2_0, .int .i64 a2_1] 45 (0, 0)) (by (with_reducible repeat (first | refine blk_drewN ?_ _ | refine blk_drew ?_ | refine blk_alloc ?_ _)); exact BK465.out)) : gb494 ≠ gb465))
                                clear HO_8
                                clear HO479
                                clear BK464
                                clear BK465
                                clear HR485
                                clear HR489
                                clear HB
                                have HO_8 := n0_
                                have HO479 := n1_
                                have BK464 := n2_
                                have BK465 := n3_
                                have HR485 := n4_
                                have HR489 := n5_
                                have HB := n6_
                                have BK494 := n7_
                                have GW494 := n8_
                                have GE494 := n9_
                                have NB464_494 := n10_
                                have NB494_464 := n11_
                                have NB465_494 := n12_
                                have NB494_465 := n13_
                                clear n0_ n1_ n2_ n3_ n4_ n5_ n6_ n7_ n8_ n9_ n10_ n11_ n12_ n13_
                                clear hb hbox hg
                                refine hK.out _ _ trivial (fun hHeld => ?_)
                                clear hK K
                                refine norm_ (a' := ?_) ?_ ?_
                                rotate_left
                                · show Act.put _ (some 13) _ = _
                                  simp only [Act.put, List.setIfInBounds_toArray, List.set_cons_zero, List.set_cons_succ, i64_w, i32_w]
                                  rfl
                                refine one_ (i := 4) (N := some 67) #[true, true, true, true, true, false, false, false, true, false, false] rfl rfl (one_of HT_.out (by kernel_rfl)) (by decide) (fun K hK => ?_)
                                refine goes_ Try.func30 (by kernel_rfl) rfl #[.slice (some ⟨go28, 0, none⟩) y482.length co64, .slice A69 y486.length c69] (by rfl) rfl rfl (by (try simp only [List.map_toArray, List.map_cons, List.map_nil]); first | done | rfl | (simp only [List.length_drop, List.length_take]; rfl)) ?_
                                with_reducible refine (oob_Unpack.calls kj5 _ _ y482 _ _ y486 t490 t491 t492 t493 _ ?side1 ?side2 ?side3 ?side4 A31.out).mono ?_
                                (case side1 => repeat (first | exact (by repeat (first | (with_reducible exact HR485.out) | (with_reducible refine Kd.C_alloc ?_ _) | (with_reducible refine Kd.C_drewN ?_ _) | (with_reducible refine Kd.C_drew ?_) | exact HR485.out)) | (with_reducible refine Kd.C_alloc ?_ _) | (with_reducible refine Kd.C_drewN ?_ _) | (with_reducible refine Kd.C_drew ?_)))
                                (case side2 => exact HC485.out)
                                (case side3 => repeat (first | exact (by repeat (first | (with_reducible exact HR489.out) | (with_reducible refine Kd.C_alloc ?_ _) | (with_reducible refine Kd.C_drewN ?_ _) | (with_reducible refine Kd.C_drew ?_) | exact HR489.out)) | (with_reducible refine Kd.C_alloc ?_ _) | (with_reducible refine Kd.C_drewN ?_ _) | (with_reducible refine Kd.C_drew ?_)))
                                (case side4 => exact HC489.out)
                                rintro e w71 ⟨rfl, hb⟩
                                refine ⟨_, rfl, ?_⟩
                                have n0_ := Aside0.mk (Kd.R_below (by (with_reducible repeat (first | apply Kd.R_alloc | apply Kd.R_drewN | apply Kd.R_drew)); exact HO_8.out) hb)
                                have n1_ := Aside0.mk (Kd.R_below (by (with_reducible repeat (first | apply Kd.R_alloc | apply Kd.R_drewN | apply Kd.R_drew)); exact HO479.out) hb)
                                have n2_ := Aside0.mk (blk_below (g := gb464) (o := .cells #[.int .i64 a0_0, .int .i64 a0_1, .int .i64 a0_2] 31 (0, 0)) (by (with_reducible repeat (first | refine blk_drewN ?_ _ | refine blk_drew ?_ | refine blk_alloc ?_ _)); exact BK464.out) hb)
                                have n3_ := Aside0.mk (blk_below (g := gb465) (o := .cells #[.int .i64 a2_0, .int .i64 a2_1] 45 (0, 0)) (by (with_reducible repeat (first | refine blk_drewN ?_ _ | refine blk_drew ?_ | refine blk_alloc ?_ _)); exact BK465.out) hb)
                                have n4_ := Aside0.mk (Kd.C_below (by repeat (first | (with_reducible exact HR485.out) | (with_reducible refine Kd.C_alloc ?_ _) | (with_reducible refine Kd.C_drewN ?_ _) | (with_reducible refine Kd.C_drew ?_) | exact HR485.out)) hb)
                                have n5_ := Aside0.mk (Kd.C_below (by repeat (first | (with_reducible exact HR489.out) | (with_reducible refine Kd.C_alloc ?_ _) | (with_reducible refine Kd.C_drewN ?_ _) | (with_reducible refine Kd.C_drew ?_) | exact HR489.out)) hb)
                                have n6_ := Aside0.mk (blk_below (g := gb494) (o := .cells #[.int .i64 0, .int .i64 0, .int .i64 0] 31 (0, 0)) (by (with_reducible repeat (first | refine blk_drewN ?_ _ | refine blk_drew ?_ | refine blk_alloc ?_ _)); exact BK494.out) hb)
                                have n7_ := Aside0.mk (below_step (by repeat (first | (with_reducible first | exact HB.out | apply below_alloc | apply pw_below_drewN | apply below_drew1 | refine below_set ?_ GE464.out | refine below_set ?_ GE465.out | refine below_set ?_ GE494.out) | exact HB.out)) hb)
                                clear HO_8
                                clear HO479
                                clear BK464
                                clear BK465
                                clear HR485
                                clear HR489
                                clear BK494
                                clear HB
                                have HO_8 := n0_
                                have HO479 := n1_
                                have BK464 := n2_
                                have BK465 := n3_
                                have HR485 := n4_
                                have HR489 := n5_
                                have BK494 := n6_
                                have HB := n7_
                                clear n0_ n1_ n2_ n3_ n4_ n5_ n6_ n7_
                                (try clear hb)
                                (try clear hb2)
                                (try clear hk)
                                (try clear hi)
                                refine hK.out _ _ trivial (fun hHeld => ?_)
                                clear hK K
                                refine norm_ (a' := ?_) ?_ ?_
                                rotate_left
                                · show Act.put _ (some 67) _ = _
                                  simp only [Act.put, List.setIfInBounds_toArray, List.set_cons_zero, List.set_cons_succ, i64_w, i32_w]
                                  rfl
                                refine pure_ (i := 5) (N := some 62) (v := ?_) (a' := ?_) #[true, true, true, true, true, true, false, false, true, false, false] rfl rfl (any_of HT_.out (by kernel_rfl)) (fun _ _ _ h => h) (Or.inl ⟨by rfl, ?_⟩) ?_ ?_
                                rotate_left
                                · intro w'
                                  go_simp
                                  with_reducible rfl
                                rotate_left
                                · simp only [Act.put, List.setIfInBounds_toArray, List.set_cons_zero, List.set_cons_succ, i64_w, i32_w]
                                  rfl
                                refine pure_ (i := 6) (N := some 68) (v := ?_) (a' := ?_) #[true, true, true, true, true, true, true, false, true, false, false] rfl rfl (any_of HT_.out (by kernel_rfl)) (fun _ _ _ h => h) (Or.inl ⟨by rfl, ?_⟩) ?_ ?_
                                rotate_left
                                · intro w'
                                  go_simp
                                  with_reducible rfl
                                rotate_left
                                · simp only [Act.put, List.setIfInBounds_toArray, List.set_cons_zero, List.set_cons_succ, i64_w, i32_w]
                                  rfl
                                refine pure_ (i := 7) (N := some 69) (v := ?_) (a' := ?_) #[true, true, true, true, true, true, true, true, true, false, false] rfl rfl (any_of HT_.out (by kernel_rfl)) (fun _ _ _ h => h) (Or.inl ⟨by rfl, ?_⟩) ?_ ?_
                                rotate_left
                                · intro w'
                                  go_simp
                                  with_reducible rfl
                                rotate_left
                                · simp only [Act.put, List.setIfInBounds_toArray, List.set_cons_zero, List.set_cons_succ, i64_w, i32_w]
                                  rfl
                                exact norm_ (by simp only [putAll, Act.put, List.setIfInBounds_toArray, List.set_cons_zero, List.set_cons_succ]) (hCont (gb494) _ ⟨(by (with_reducible repeat (first | apply Kd.R_alloc | apply Kd.R_drewN | apply Kd.R_drew)); exact HO479.out), (by (with_reducible repeat (first | apply Kd.R_alloc | apply Kd.R_drewN | apply Kd.R_drew)); exact Kd.R_mono HO_8.out (fun _ hk => hk.2)), (by (with_reducible repeat (first | refine blk_drewN ?_ _ | refine blk_drew ?_ | refine blk_alloc ?_ _)); exact BK464.out), (by (with_reducible repeat (first | refine blk_drewN ?_ _ | refine blk_drew ?_ | refine blk_alloc ?_ _)); exact BK465.out), (by (with_reducible repeat (first | refine blk_drewN ?_ _ | refine blk_drew ?_ | refine blk_alloc ?_ _)); exact BK494.out), GW494.out, GE494.out, NB464_494.out, NB494_464.out, NB465_494.out, NB494_465.out, (by repeat (first | (with_reducible first | exact HB.out | apply below_alloc | apply pw_below_drewN | apply below_drew1 | refine below_set ?_ GE464.out | refine below_set ?_ GE465.out | refine below_set ?_ GE494.out) | exact HB.out))⟩)
                            rintro gb494 w72 ⟨h0_, h1_, h2_, h3_, h4_, h5_, h6_, h7_, h8_, h9_, h10_, h11_⟩
                            have n0_ : Aside0 (Kd.R (Kd.int .u8) 5 w72 w.heap.size (fun k_ => some k_ ≠ (.slice Ao57 t467.length co57 : Value).ownBlock) (.slice (some ⟨go28, 0, none⟩) y477.length co64) y481) := ⟨h0_⟩
                            have n1_ : Aside0 (Kd.R (Kd.int .u8) 5 w72 w.heap.size (fun k_ => some k_ ≠ (.slice (some ⟨go28, 0, none⟩) y477.length co64 : Value).ownBlock) (.slice Ao57 t467.length co57) t467) := ⟨h1_⟩
                            have n2_ : Aside0 (w72.heap[gb464]? = some (.cells #[.int .i64 a0_0, .int .i64 a0_1, .int .i64 a0_2] 31 (0, 0))) := ⟨h2_⟩
                            have n3_ : Aside0 (w72.heap[gb465]? = some (.cells #[.int .i64 a2_0, .int .i64 a2_1] 45 (0, 0))) := ⟨h3_⟩
                            have n4_ : Aside0 (w72.heap[gb494]? = some (.cells #[.int .i64 0, .int .i64 0, .int .i64 0] 31 (0, 0))) := ⟨h4_⟩
                            have n5_ : Aside0 (w.heap.size ≤ gb494) := ⟨h5_⟩
                            have n6_ : Aside0 (w.heap.size ≤ gb494) := ⟨h6_⟩
                            have n7_ : Aside0 (gb464 ≠ gb494) := ⟨h7_⟩
                            have n8_ : Aside0 (gb494 ≠ gb464) := ⟨h8_⟩
                            have n9_ : Aside0 (gb465 ≠ gb494) := ⟨h9_⟩
                            have n10_ : Aside0 (gb494 ≠ gb465) := ⟨h10_⟩
                            have n11_ : Aside0 (Below w.heap.size w w72) := ⟨h11_⟩
                            clear HO_8
                            clear HO479
                            clear BK464
                            clear BK465
                            clear HB
                            clear h0_ h1_ h2_ h3_ h4_ h5_ h6_ h7_ h8_ h9_ h10_ h11_
                            have HO479 := n0_
                            have HO_8 := n1_
                            have BK464 := n2_
                            have BK465 := n3_
                            have BK494 := n4_
                            have GW494 := n5_
                            have GE494 := n6_
                            have NB464_494 := n7_
                            have NB494_464 := n8_
                            have NB465_494 := n9_
                            have NB494_465 := n10_
                            have HB := n11_
                            clear n0_ n1_ n2_ n3_ n4_ n5_ n6_ n7_ n8_ n9_ n10_ n11_
                            have hHeld := trivial
                            refine norm_ (a' := ?_) ?_ ?_
                            rotate_left
                            · simp only [putAll, Act.put, List.setIfInBounds_toArray, List.set_cons_zero, List.set_cons_succ]
                              rfl
                            refine one_ (i := 9) (N := none) #[true, true, true, true, true, true, true, true, true, true, false] rfl rfl (one_of HT_.out (by kernel_rfl)) (by decide) (fun K hK => ?_)
                            have hs73 : w72.cell? ⟨gb494, 0, none⟩ = some (.int .i64 0) := (blk_cell BK494.out 0).trans rfl
                            have hfs73 := blk_frozen BK494.out 0
                            have hns73_0 := NB464_494.out
                            have hns73_1 := NB465_494.out
                            have hms73_0 := NB494_464.out
                            have hms73_1 := NB494_465.out
                            have hs74 : w72.cell? ⟨gb494, 1, none⟩ = some (.int .i64 0) := (blk_cell BK494.out 1).trans rfl
                            have hfs74 := blk_frozen BK494.out 1
                            have hns74_0 := NB464_494.out
                            have hns74_1 := NB465_494.out
                            have hms74_0 := NB494_464.out
                            have hms74_1 := NB494_465.out
                            have hs75 : w72.cell? ⟨gb494, 2, none⟩ = some (.int .i64 0) := (blk_cell BK494.out 2).trans rfl
                            have hfs75 := blk_frozen BK494.out 2
                            have hns75_0 := NB464_494.out
                            have hns75_1 := NB465_494.out
                            have hms75_0 := NB494_464.out
                            have hms75_1 := NB494_465.out
                            refine skip_ (w1 := ?_) (by rfl) rfl ?_ ?_
                            rotate_left
                            · go_simp
                              rfl
                            refine hK.out _ _ trivial (fun hHeld => ?_)
                            clear hK K
                            refine pure_ (i := 10) (N := some 14) (v := ?_) (a' := ?_) #[true, true, true, true, true, true, true, true, true, true, true] rfl rfl (any_of HT_.out (by kernel_rfl)) (fun _ _ _ h => h) (Or.inl ⟨by rfl, ?_⟩) ?_ ?_
                            rotate_left
                            · intro w'
                              go_simp
                              with_reducible rfl
                            rotate_left
                            · simp only [Act.put, List.setIfInBounds_toArray, List.set_cons_zero, List.set_cons_succ, i64_w, i32_w]
                              rfl
                            refine done_ (done_of HT_.out (by kernel_rfl)) ?_
                            have hnb76 := NB494_464.out
                            have hnc76 := NB464_494.out
                            have hnb77 := NB494_465.out
                            have hnc77 := NB465_494.out
                            have hcz78_0 : w72.cell? ⟨gb494, 0, none⟩ = some (.int .i64 0) := (blk_cell BK494.out 0).trans rfl
                            have hcz78_1 : w72.cell? ⟨gb494, 1, none⟩ = some (.int .i64 0) := (blk_cell BK494.out 1).trans rfl
                            have hcz78_2 : w72.cell? ⟨gb494, 2, none⟩ = some (.int .i64 0) := (blk_cell BK494.out 2).trans rfl
                            have hfz78_0 := blk_frozen BK494.out 0
                            have hfz78_1 := blk_frozen BK494.out 1
                            have hfz78_2 := blk_frozen BK494.out 2
                            try go_wp2
                            go_ret
                            exact ⟨by first | rfl | (simp [errW_none, errW_some] <;> rfl) | (simp only [← hji25]; first | rfl | (simp [errW_none, errW_some] <;> rfl)) | (simp [*, errW_none, errW_some] <;> rfl), by repeat (first | (with_reducible first | exact HB.out | apply below_alloc | apply pw_below_drewN | apply below_drew1 | refine below_set ?_ GE464.out | refine below_set ?_ GE465.out | refine below_set ?_ GE494.out) | exact HB.out)⟩
                        · rw [if_neg c33] at H
                          have c33b0 : (t490 == 0 && (t491 == 0 && (t492 == 0))) = false := by simpa using c33
                          (try (have c33b1 : decide (t490 = 0 && (t491 == 0 && (t492 == 0))) = false := by simpa using c33))
                          (try (have c33b2 : (t490 == 0 && (t491 == 0 && (t492 == 0))) = false := by simpa using c33))
                          (try (have c33b3 : ¬ (t490 = 0 && (t491 == 0 && (t492 == 0))) := by simpa using c33))
                          clear c33
                          obtain rfl := Option.some.inj H
                          obtain ⟨Ao79, co79, eo79⟩ := Kd.R_slice HO_8.out
                          subst eo79
                          try go_wp2_with (first | ((with_reducible refine gate_dst (N := 45) rfl ?_); (try (refine gate_guard (by rfl) ?_; dsimp only)); refine Kd.R_lit (Kd.int .u8) _ 5 ?hg (N := 45) ?hd (xs := ([] : List Int)) (inner := []) (ok := fun _ => True) (okp := fun _ => True) ?hr ?hp (fun _ hk => hk) trivial (Below.refl _ _) (Nat.le_refl _) (by simp) ?_; (case hd => rfl); (case hg => rfl); (case hr => first | (go_simp; done) | (go_simp; rfl)); (case hp => exact (Reps.none _ _)); intro v472 w80 ho81 hb hg_ hnew_; clear hg_ hnew_; (first | rw [← Ny471.out] at ho81 | (simp only [Int.reduceToNat] at ho81; rw [← Ny471.out] at ho81)); have n0_ := Aside0.mk (Kd.R_elder' (by (with_reducible repeat (first | apply Kd.R_alloc | apply Kd.R_drewN | apply Kd.R_drew)); exact HO_8.out) (Kd.R_base ho81) hb); have n1_ := Aside0.mk (Kd.R_lower (Kd.R_new' ho81 (Kd.R_lt (by (with_reducible repeat (first | apply Kd.R_alloc | apply Kd.R_drewN | apply Kd.R_drew)); exact HO_8.out))) (below_size (by repeat (first | (with_reducible first | exact HB.out | apply below_alloc | apply pw_below_drewN | apply below_drew1 | refine below_set ?_ GE464.out | refine below_set ?_ GE465.out) | exact HB.out)))); have n2_ := Aside0.mk (blk_below (g := gb464) (o := .cells #[.int .i64 a0_0, .int .i64 a0_1, .int .i64 a0_2] 31 (0, 0)) (by (with_reducible repeat (first | refine blk_drewN ?_ _ | refine blk_drew ?_ | refine blk_alloc ?_ _)); exact BK464.out) hb); have n3_ := Aside0.mk (blk_below (g := gb465) (o := .cells #[.int .i64 a2_0, .int .i64 a2_1] 45 (0, 0)) (by (with_reducible repeat (first | refine blk_drewN ?_ _ | refine blk_drew ?_ | refine blk_alloc ?_ _)); exact BK465.out) hb); have n4_ := Aside0.mk (below_step (by repeat (first | (with_reducible first | exact HB.out | apply below_alloc | apply pw_below_drewN | apply below_drew1 | refine below_set ?_ GE464.out | refine below_set ?_ GE465.out) | exact HB.out)) hb); clear HO_8; clear BK464; clear BK465; clear HB; have HO_8 := n0_; have HO473 := n1_; have BK464 := n2_; have BK465 := n3_; have HB := n4_; clear n0_ n1_ n2_ n3_ n4_; clear hb ho81) | ((with_reducible refine gate_builtin (b := .append) (xs := #[.tmp 45, .tmp 46]) rfl ?_); (try (refine gate_guard (by rfl) ?_; dsimp only)); at_builtin; refine Kd.R_append_rows (Kd.int .u8) (w0 := w) w.heap.size rfl (.tmp 45) (.tmp 46) 25 5 (.int .u8 0) 1 rfl Try.underlying25 info5 rfl (by decide) (by omega) v472 y471 t467 _ _ _ (fun k_ => some k_ ≠ (.slice Ao79 t467.length co79 : Value).ownBlock) (fun _ => False) rfl rfl ?aO ?aR (fun _ _ h => h) (fun _ h => h.elim) ?aF ?aB ?aS ?aL ?_; (case aR => repeat (first | exact (Kd.R_reads' HO_8.out).2.2 | (with_reducible refine Kd.C_alloc ?_ _) | (with_reducible refine Kd.C_drewN ?_ _) | (with_reducible refine Kd.C_drew ?_))); (case aB => exact (by repeat (first | (with_reducible first | exact HB.out | apply below_alloc | apply pw_below_drewN | apply below_drew1 | refine below_set ?_ GE464.out | refine below_set ?_ GE465.out) | exact HB.out))); (case aF => exact (fun k_ hk => Kd.fresh' (Kd.R_lt (by (with_reducible repeat (first | apply Kd.R_alloc | apply Kd.R_drewN | apply Kd.R_drew)); exact HO_8.out)) k_ hk)); (case aO => exact (by (with_reducible repeat (first | apply Kd.R_alloc | apply Kd.R_drewN | apply Kd.R_drew)); exact Kd.R_mono HO473.out (fun _ hk => hk.2))); (case aS => exact (below_size (by repeat (first | (with_reducible first | exact HB.out | apply below_alloc | apply pw_below_drewN | apply below_drew1 | refine below_set ?_ GE464.out | refine below_set ?_ GE465.out) | exact HB.out)))); (case aL => have := LMc23.out; omega); intro v475 w82 ho hb hg hat; rw [← Ny474.out] at ho; have n0_ := Aside0.mk (Kd.R_after (ok := (fun _ => True)) (by (with_reducible repeat (first | apply Kd.R_alloc | apply Kd.R_drewN | apply Kd.R_drew)); exact HO_8.out) hg hat); have n1_ := Aside0.mk (blk_grown (g := gb464) (o := .cells #[.int .i64 a0_0, .int .i64 a0_1, .int .i64 a0_2] 31 (0, 0)) (by (with_reducible repeat (first | refine blk_drewN ?_ _ | refine blk_drew ?_ | refine blk_alloc ?_ _)); exact BK464.out) hg (Kd.R_ne HO473.out BK464.out (by decide))); have n2_ := Aside0.mk (blk_grown (g := gb465) (o := .cells #[.int .i64 a2_0, .int .i64 a2_1] 45 (0, 0)) (by (with_reducible repeat (first | refine blk_drewN ?_ _ | refine blk_drew ?_ | refine blk_alloc ?_ _)); exact BK465.out) hg (Kd.R_ne HO473.out BK465.out (by decide))); have n3_ := Aside0.mk (hb); have n4_ := Aside0.mk (ho); clear HO_8; clear BK464; clear BK465; clear HB; clear HO473; have HO_8 := n0_; have BK464 := n1_; have BK465 := n2_; have HB := n3_; have HO476 := n4_; clear n0_ n1_ n2_ n3_ n4_; clear ho hb hg hat) | ((with_reducible refine gate_builtin (b := .append) (xs := #[.tmp 47, .tmp 48]) rfl ?_); (try (refine gate_guard (by rfl) ?_; dsimp only)); at_builtin; refine Kd.R_append_rows (Kd.int .u8) (w0 := w) w.heap.size rfl (.tmp 47) (.tmp 48) 25 5 (.int .u8 0) 1 rfl Try.underlying25 info5 rfl (by decide) (by omega) v475 y474 l1 _ _ _ (fun k_ => some k_ ≠ (.slice Ao79 t467.length co79 : Value).ownBlock) (fun _ => False) rfl rfl ?aO ?aR (fun _ _ h => h) (fun _ h => h.elim) ?aF ?aB ?aS ?aL ?_; (case aR => repeat (first | exact (Kd.C_below HR1.out HB.out) | (with_reducible refine Kd.C_alloc ?_ _) | (with_reducible refine Kd.C_drewN ?_ _) | (with_reducible refine Kd.C_drew ?_))); (case aB => exact (by repeat (first | (with_reducible first | exact HB.out | apply below_alloc | apply pw_below_drewN | apply below_drew1 | refine below_set ?_ GE464.out | refine below_set ?_ GE465.out) | exact HB.out))); (case aF => exact (fun k_ hk => Kd.fresh' (Kd.R_lt (by (with_reducible repeat (first | apply Kd.R_alloc | apply Kd.R_drewN | apply Kd.R_drew)); exact HO_8.out)) k_ hk)); (case aO => exact (by (with_reducible repeat (first | apply Kd.R_alloc | apply Kd.R_drewN | apply Kd.R_drew)); exact HO476.out)); (case aS => exact (below_size (by repeat (first | (with_reducible first | exact HB.out | apply below_alloc | apply pw_below_drewN | apply below_drew1 | refine below_set ?_ GE464.out | refine below_set ?_ GE465.out) | exact HB.out)))); (case aL => have := LMc24.out; omega); intro v478 w83 ho hb hg hat; rw [← Ny477.out] at ho; have n0_ := Aside0.mk (Kd.R_after (ok := (fun _ => True)) (by (with_reducible repeat (first | apply Kd.R_alloc | apply Kd.R_drewN | apply Kd.R_drew)); exact HO_8.out) hg hat); have n1_ := Aside0.mk (blk_grown (g := gb464) (o := .cells #[.int .i64 a0_0, .int .i64 a0_1, .int .i64 a0_2] 31 (0, 0)) (by (with_reducible repeat (first | refine blk_drewN ?_ _ | refine blk_drew ?_ | refine blk_alloc ?_ _)); exact BK464.out) hg (Kd.R_ne HO476.out BK464.out (by decide))); have n2_ := Aside0.mk (blk_grown (g := gb465) (o := .cells #[.int .i64 a2_0, .int .i64 a2_1] 45 (0, 0)) (by (with_reducible repeat (first | refine blk_drewN ?_ _ | refine blk_drew ?_ | refine blk_alloc ?_ _)); exact BK465.out) hg (Kd.R_ne HO476.out BK465.out (by decide))); have n3_ := Aside0.mk (hb); have n4_ := Aside0.mk (ho); clear HO_8; clear BK464; clear BK465; clear HB; clear HO476; have HO_8 := n0_; have BK464 := n1_; have BK465 := n2_; have HB := n3_; have HO479 := n4_; clear n0_ n1_ n2_ n3_ n4_; clear ho hb hg hat; have hnb84 := NB465_464.out; have hnc84 := NB464_465.out; have hcz85_0 : w83.cell? ⟨gb465, 0, none⟩ = some (.int .i64 a2_0) := (blk_cell BK465.out 0).trans rfl; have hcz85_1 : w83.cell? ⟨gb465, 1, none⟩ = some (.int .i64 a2_1) := (blk_cell BK465.out 1).trans rfl; have hfz85_0 := blk_frozen BK465.out 0; have hfz85_1 := blk_frozen BK465.out 1; obtain ⟨Ao86, co86, eo86⟩ := Kd.R_slice HO479.out; subst eo86; have p480 : 0 ≤ ((ji25) : Int) := of_decide_eq_true (by first | (with_reducible assumption) | assumption); have q480 : (ji25) < (y477.length : Int) := of_decide_eq_true (by first | (with_reducible assumption) | assumption); obtain ⟨ad480, e480, hx480_0⟩ := Kd.at_int (Kd.R_reads' HO479.out).2.2 (ji25) p480 q480; cases e480; replace p480 := eq_true p480; replace q480 := eq_true q480; have p28 : 0 ≤ ((ji25) : Int) := of_decide_eq_true (by first | (with_reducible assumption) | assumption); have q28 : ((ji25) : Int) < ((y477.length : Int) : Int) := of_decide_eq_true (by first | (with_reducible assumption) | assumption); obtain ⟨go28, co28, eo28, gb28, gl28, cl28, HG28⟩ := Kd.R_form HO479.out (by omega); (first | cases eo28 | (injection eo28 with ea_ en_ ec_; (first | subst ea_ | (injection ea_ with ea_; subst ea_)); subst ec_; clear en_)); have GB28 := Aside0.mk gb28; have GG28 := Aside0.mk HG28; clear gb28 gl28 HG28; (first | simp only [add_plain] at hx480_0 | skip); obtain ⟨hx28_0, hf28_0⟩ := Kd.R_celln 0 HO479.out ((ji25) : Int) p28 q28; replace p28 := eq_true p28; replace q28 := eq_true q28; obtain ⟨hy87_, hz87_⟩ := Kd.R_celln 0 HO479.out ((ji25) : Int) (of_decide_eq_true (by first | (with_reducible assumption) | assumption)) (of_decide_eq_true (by first | (with_reducible assumption) | assumption)); have HP87 := Kd.R_putg HO479.out ((ji25) : Int) (Go.bits .xor .u8 (rd y477 (ji25)) ((a2_1) % 256))) | ((with_reducible refine gate_store (t := 5) (p := 61) rfl ?_); refine store_event (t := 5) (p := 61) (v := ?vo_w88) (w1 := (w83.setCell ⟨go28, ((ji25) : Int).toNat, none⟩ (.int .u8 (Go.bits .xor .u8 (rd y477 (ji25)) ((a2_1) % 256))))) ?hg ?ho ?hn ?hr ?_; (case ho => rfl); (case hg => rfl); (case hn => rfl); (case hr => first | (go_simp; done) | (go_simp; rfl)); intro w88 hw; have hg : w83.grownBy w88 (some go28) := (by rw [hw]; exact HP87.2); have hp_ : Kd.R (Kd.int .u8) 5 w88 w.heap.size (fun k_ => some k_ ≠ (.slice Ao79 t467.length co79 : Value).ownBlock) (.slice (some ⟨go28, 0, none⟩) y477.length co86) y481 := (by rw [hw, Ny481.out]; exact HP87.1); clear HP87; have n0_ := Aside0.mk (Kd.R_after (v := (.slice (some ⟨go28, 0, none⟩) y477.length co86)) (v1 := (.slice (some ⟨go28, 0, none⟩) y477.length co86)) (ok := (fun _ => True)) (by (with_reducible repeat (first | apply Kd.R_alloc | apply Kd.R_drewN | apply Kd.R_drew)); exact HO_8.out) hg (.inl rfl)); have n1_ := Aside0.mk (blk_grown (g := gb464) (o := .cells #[.int .i64 a0_0, .int .i64 a0_1, .int .i64 a0_2] 31 (0, 0)) (by (with_reducible repeat (first | refine blk_drewN ?_ _ | refine blk_drew ?_ | refine blk_alloc ?_ _)); exact BK464.out) hg (Kd.R_ne HO479.out BK464.out (by decide))); have n2_ := Aside0.mk (blk_grown (g := gb465) (o := .cells #[.int .i64 a2_0, .int .i64 a2_1] 45 (0, 0)) (by (with_reducible repeat (first | refine blk_drewN ?_ _ | refine blk_drew ?_ | refine blk_alloc ?_ _)); exact BK465.out) hg (Kd.R_ne HO479.out BK465.out (by decide))); have n3_ := Aside0.mk (hp_); have n4_ := Aside0.mk ((by rw [hw]; exact below_set (HB.out) GB28.out : Below w.heap.size w w88)); clear HO_8; clear BK464; clear BK465; clear HO479; clear HB; have HO_8 := n0_; have BK464 := n1_; have BK465 := n2_; have HO479 := n3_; have HB := n4_; clear n0_ n1_ n2_ n3_ n4_; clear hg hw hp_))
                          (try (rw [drewN_self w88]; generalize hq_ : World.drewN w88 _ = w88; have n0_ : Aside0 (Kd.R (Kd.int .u8) 5 w88 w.heap.size (fun k_ => some k_ ≠ (.slice Ao79 t467.length co79 : Value).ownBlock) (.slice (some ⟨go28, 0, none⟩) y477.length co86) y481) := ⟨by rw [← hq_]; exact (by (with_reducible repeat (first | apply Kd.R_alloc | apply Kd.R_drewN | apply Kd.R_drew)); exact HO479.out)⟩; have n1_ : Aside0 (Kd.R (Kd.int .u8) 5 w88 w.heap.size (fun k_ => some k_ ≠ (.slice (some ⟨go28, 0, none⟩) y477.length co86 : Value).ownBlock) (.slice Ao79 t467.length co79) t467) := ⟨by rw [← hq_]; exact (by (with_reducible repeat (first | apply Kd.R_alloc | apply Kd.R_drewN | apply Kd.R_drew)); exact Kd.R_mono HO_8.out (fun _ hk => hk.2))⟩; have n2_ : Aside0 (w88.heap[gb464]? = some (.cells #[.int .i64 a0_0, .int .i64 a0_1, .int .i64 a0_2] 31 (0, 0))) := ⟨by rw [← hq_]; exact (by (with_reducible repeat (first | refine blk_drewN ?_ _ | refine blk_drew ?_ | refine blk_alloc ?_ _)); exact BK464.out)⟩; have n3_ : Aside0 (w88.heap[gb465]? = some (.cells #[.int .i64 a2_0, .int .i64 a2_1] 45 (0, 0))) := ⟨by rw [← hq_]; exact (by (with_reducible repeat (first | refine blk_drewN ?_ _ | refine blk_drew ?_ | refine blk_alloc ?_ _)); exact BK465.out)⟩; have n4_ : Aside0 (Below w.heap.size w w88) := ⟨by rw [← hq_]; exact (by repeat (first | (with_reducible first | exact HB.out | apply below_alloc | apply pw_below_drewN | apply below_drew1 | refine below_set ?_ GE464.out | refine below_set ?_ GE465.out) | exact HB.out))⟩; clear HO479 HO_8 BK464 BK465 HB hq_; have HO479 := n0_; have HO_8 := n1_; have BK464 := n2_; have BK465 := n3_; have HB := n4_; clear n0_ n1_ n2_ n3_ n4_))
                          have n0_ := Aside0.mk (Kd.R_drew HO_8.out)
                          have n1_ := Aside0.mk (Kd.R_drew HO479.out)
                          have n2_ := Aside0.mk (blk_drew BK464.out)
                          have n3_ := Aside0.mk (blk_drew BK465.out)
                          have n4_ := Aside0.mk (below_drew1 HB.out)
                          clear HO_8
                          clear HO479
                          clear BK464
                          clear BK465
                          clear HB
                          have HO_8 := n0_
                          have HO479 := n1_
                          have BK464 := n2_
                          have BK465 := n3_
                          have HB := n4_
                          clear n0_ n1_ n2_ n3_ n4_
                          have hlx90 := (Kd.R_reads' HO479.out).1
                          have q90 : (17 : Int) ≤ ((y477.length : Int) : Int) := of_decide_eq_true (by first | (with_reducible assumption) | assumption)
                          obtain ⟨i090, hi090, _, hsz90, _⟩ := info_parts info5
                          have hroom90 : y477.length ≤ co86 := (Kd.R_reads' HO479.out).2.1
                          have hroomc90 : y481.length ≤ co86 := (by rw [← hlx90]; exact hroom90)
                          have hC90 : Kd.C (Kd.int .u8) _ (some ⟨go28, 0, none⟩) y481.length y481 := (Kd.R_reads' HO479.out).2.2
                          have hcut90 := cut_to (P := Try.prog) 25 5 .i64 Try.underlying25 hi090 (some ⟨go28, 0, none⟩) y477.length co86 17 (by omega) q90 hroom90
                          have hr90 := Kd.C_take (m := 17) hC90 (by omega)
                          have hy90 : y482.length = (17 : Int).toNat := (by rw [Ny482.out, List.length_take]; omega)
                          rw [← Ny482.out] at hr90
                          rw [← hy90] at hcut90
                          have HR485 := Aside0.mk hr90
                          have HC485 := Aside0.mk (show y482.length ≤ co86 from by omega)
                          clear hr90 hC90 hroom90 hi090 hsz90 hroomc90
                          have KY90 := Aside0.mk hy90
                          clear hy90
                          have KE90 := Aside0.mk hlx90
                          have KL90 := Aside0.mk (show 17 ≤ y481.length from by omega)
                          clear hlx90
                          replace q90 := eq_true q90
                          have hlx91 := (Kd.R_reads' HO479.out).1
                          have q91 : (17 : Int) ≤ ((y477.length : Int) : Int) := of_decide_eq_true (by first | (with_reducible assumption) | assumption)
                          obtain ⟨i091, hi091, _, hsz91, _⟩ := info_parts info5
                          have hroom91 : y477.length ≤ co86 := (Kd.R_reads' HO479.out).2.1
                          have hroomc91 : y481.length ≤ co86 := (by rw [← hlx91]; exact hroom91)
                          have hC91 : Kd.C (Kd.int .u8) _ (some ⟨go28, 0, none⟩) y481.length y481 := (Kd.R_reads' HO479.out).2.2
                          have hcut91 := cut_from (P := Try.prog) 25 5 .i64 Try.underlying25 hi091 1 hsz91 (some ⟨go28, 0, none⟩) y477.length co86 17 (by omega) q91
                          have hr91 := Kd.C_drop (m := (17 : Int).toNat) (c := co86) hC91 (by omega) hroomc91
                          obtain ⟨A91, hA91⟩ : ∃ A1, A1 = (if co86 = (17 : Int).toNat then (some ⟨go28, 0, none⟩) else ((some ⟨go28, 0, none⟩) : Option Addr).map (·.add ((17 : Int).toNat * 1))) := ⟨_, rfl⟩
                          obtain ⟨c91, hc91⟩ : ∃ c1, c1 = co86 - (17 : Int).toNat := ⟨_, rfl⟩
                          have hy91 : y486.length = y477.length - (17 : Int).toNat := (by rw [Ny486.out, List.length_drop] <;> omega)
                          rw [show (y481).drop (17 : Int).toNat = y486 from Ny486.out.symm] at hr91
                          replace hr91 : Kd.C (Kd.int .u8) _ A91 y486.length y486 := (by rw [hA91]; exact hr91)
                          rw [← hy91, ← hA91, ← hc91] at hcut91
                          have HR489 := Aside0.mk hr91
                          have HC489 := Aside0.mk (show y486.length ≤ c91 from by rw [hy91, hc91]; exact Nat.sub_le_sub_right hroom91 _)
                          clear hr91 hC91 hroom91 hi091 hsz91 hc91 hroomc91
                          have KY91 := Aside0.mk hy91
                          have KA91 := Aside0.mk hA91
                          clear hy91 hA91
                          have KE91 := Aside0.mk hlx91
                          have KL91 := Aside0.mk (show 17 ≤ y481.length from by omega)
                          clear hlx91
                          replace q91 := eq_true q91
                          refine start_ (n := 11) (S := fun w' => True) (ds := []) #[false, false, false, false, false, false, false, false, false, false, false] (by kernel_rfl) rfl rfl trivial (fun hHeld => ?_); refine with_tabW strakelaw05_OobTurned.tab11 strakelaw05_OobTurned.bits11 (fun HT_ HW_ => ?_)
                          generalize w88.drew = w89 at HO_8 HO479 BK464 BK465 HB HR485 HR489 hHeld ⊢
                          refine pure_ (i := 0) (N := some 63) (v := ?_) (a' := ?_) #[true, false, false, false, false, false, false, false, false, false, false] rfl rfl (any_of HT_.out (by kernel_rfl)) (fun _ _ _ h => h) (Or.inl ⟨by rfl, ?_⟩) ?_ ?_
                          rotate_left
                          · intro w'
                            go_simp
                            with_reducible rfl
                          rotate_left
                          · simp only [Act.put, List.setIfInBounds_toArray, List.set_cons_zero, List.set_cons_succ, i64_w, i32_w]
                            rfl
                          refine pure_ (i := 1) (N := some 64) (v := ?_) (a' := ?_) #[true, true, false, false, false, false, false, false, false, false, false] rfl rfl (any_of HT_.out (by kernel_rfl)) (fun _ _ _ h => h) (Or.inl ⟨by rfl, ?_⟩) ?_ ?_
                          rotate_left
                          · intro w'
                            go_simp
                            with_reducible rfl
                          rotate_left
                          · simp only [Act.put, List.setIfInBounds_toArray, List.set_cons_zero, List.set_cons_succ, i64_w, i32_w]
                            rfl
                          refine pure_ (i := 2) (N := some 65) (v := ?_) (a' := ?_) #[true, true, true, false, false, false, false, false, false, false, false] rfl rfl (any_of HT_.out (by kernel_rfl)) (fun _ _ _ h => h) (Or.inl ⟨by rfl, ?_⟩) ?_ ?_
                          rotate_left
                          · intro w'
                            go_simp
                            with_reducible rfl
                          rotate_left
                          · simp only [Act.put, List.setIfInBounds_toArray, List.set_cons_zero, List.set_cons_succ, i64_w, i32_w]
                            rfl
                          refine pure_ (i := 3) (N := some 66) (v := ?_) (a' := ?_) #[true, true, true, true, false, false, false, false, false, false, false] rfl rfl (any_of HT_.out (by kernel_rfl)) (fun _ _ _ h => h) (Or.inl ⟨by rfl, ?_⟩) ?_ ?_
                          rotate_left
                          · intro w'
                            go_simp
                            with_reducible rfl
                          rotate_left
                          · simp only [Act.put, List.setIfInBounds_toArray, List.set_cons_zero, List.set_cons_succ, i64_w, i32_w]
                            rfl
                          refine join_ (σ := Nat) 2 #[true, true, true, true, true, true, true, true, true, false, false] (fun s_ => [(67, .tuple #[.agg #[.int .i64 t490, .int .i64 t491, .int .i64 t492], .int .i64 t493]), (13, .pointer (some ⟨s_, 0, none⟩)), (62, .tuple #[.agg #[.int .i64 t490, .int .i64 t491, .int .i64 t492], .int .i64 t493]), (68, .agg #[.int .i64 t490, .int .i64 t491, .int .i64 t492]), (69, .int .i64 t493)]) (fun s_ w' => (Kd.R (Kd.int .u8) 5 w' w.heap.size (fun k_ => some k_ ≠ (.slice Ao79 t467.length co79 : Value).ownBlock) (.slice (some ⟨go28, 0, none⟩) y477.length co86) y481) ∧ (Kd.R (Kd.int .u8) 5 w' w.heap.size (fun k_ => some k_ ≠ (.slice (some ⟨go28, 0, none⟩) y477.length co86 : Value).ownBlock) (.slice Ao79 t467.length co79) t467) ∧ (w'.heap[gb464]? = some (.cells #[.int .i64 a0_0, .int .i64 a0_1, .int .i64 a0_2] 31 (0, 0))) ∧ (w'.heap[gb465]? = some (.cells #[.int .i64 a2_0, .int .i64 a2_1] 45 (0, 0))) ∧ (w'.heap[s_]? = some (.cells #[.int .i64 0, .int .i64 0, .int .i64 0] 31 (0, 0))) ∧ (w.heap.size ≤ s_) ∧ (w.heap.size ≤ s_) ∧ (gb464 ≠ s_) ∧ (s_ ≠ gb464) ∧ (gb465 ≠ s_) ∧ (s_ ≠ gb465) ∧ (Below w.heap.size w w')) ?_ ?_
                          rotate_left
                          · intro hCont
                            refine two_ (i := 4) (j := 8) (Ni := some 67) (Nj := some 13) #[true, true, true, true, true, false, false, false, false, false, false] #[true, true, true, true, false, false, false, false, true, false, false] rfl rfl rfl rfl (two_of HT_.out (by kernel_rfl)) (by decide) (by decide) (fun K hK => ?_) (fun K hK => ?_)
                            · skip
                              refine goes_ Try.func30 (by kernel_rfl) rfl #[.slice (some ⟨go28, 0, none⟩) y482.length co86, .slice A91 y486.length c91] (by rfl) rfl rfl (by (try simp only [List.map_toArray, List.map_cons, List.map_nil]); first | done | rfl | (simp only [List.length_drop, List.length_take]; rfl)) ?_
                              with_reducible refine (oob_Unpack.calls kj5 _ _ y482 _ _ y486 t490 t491 t492 t493 _ ?side1 ?side2 ?side3 ?side4 A31.out).mono ?_
                              (case side1 => repeat (first | exact (by repeat (first | (with_reducible exact HR485.out) | (with_reducible refine Kd.C_alloc ?_ _) | (with_reducible refine Kd.C_drewN ?_ _) | (with_reducible refine Kd.C_drew ?_) | exact HR485.out)) | (with_reducible refine Kd.C_alloc ?_ _) | (with_reducible refine Kd.C_drewN ?_ _) | (with_reducible refine Kd.C_drew ?_)))
                              (case side2 => exact HC485.out)
                              (case side3 => repeat (first | exact (by repeat (first | (with_reducible exact HR489.out) | (with_reducible refine Kd.C_alloc ?_ _) | (with_reducible refine Kd.C_drewN ?_ _) | (with_reducible refine Kd.C_drew ?_) | exact HR489.out)) | (with_reducible refine Kd.C_alloc ?_ _) | (with_reducible refine Kd.C_drewN ?_ _) | (with_reducible refine Kd.C_drew ?_)))
                              (case side4 => exact HC489.out)
                              rintro e w92 ⟨rfl, hb⟩
                              refine ⟨_, rfl, ?_⟩
                              have n0_ := Aside0.mk (Kd.R_below (by (with_reducible repeat (first | apply Kd.R_alloc | apply Kd.R_drewN | apply Kd.R_drew)); exact HO_8.out) hb)
                              have n1_ := Aside0.mk (Kd.R_below (by (with_reducible repeat (first | apply Kd.R_alloc | apply Kd.R_drewN | apply Kd.R_drew)); exact HO479.out) hb)
                              have n2_ := Aside0.mk (blk_below (g := gb464) (o := .cells #[.int .i64 a0_0, .int .i64 a0_1, .int .i64 a0_2] 31 (0, 0)) (by (with_reducible repeat (first | refine blk_drewN ?_ _ | refine blk_drew ?_ | refine blk_alloc ?_ _)); exact BK464.out) hb)
                              have n3_ := Aside0.mk (blk_below (g := gb465) (o := .cells #[.int .i64 a2_0, .int .i64 a2_1] 45 (0, 0)) (by (with_reducible repeat (first | refine blk_drewN ?_ _ | refine blk_drew ?_ | refine blk_alloc ?_ _)); exact BK465.out) hb)
                              have n4_ := Aside0.mk (Kd.C_below (by repeat (first | (with_reducible exact HR485.out) | (with_reducible refine Kd.C_alloc ?_ _) | (with_reducible refine Kd.C_drewN ?_ _) | (with_reducible refine Kd.C_drew ?_) | exact HR485.out)) hb)
                              have n5_ := Aside0.mk (Kd.C_below (by repeat (first | (with_reducible exact HR489.out) | (with_reducible refine Kd.C_alloc ?_ _) | (with_reducible refine Kd.C_drewN ?_ _) | (with_reducible refine Kd.C_drew ?_) | exact HR489.out)) hb)
                              have n6_ := Aside0.mk (below_step (by repeat (first | (with_reducible first | exact HB.out | apply below_alloc | apply pw_below_drewN | apply below_drew1 | refine below_set ?_ GE464.out | refine below_set ?_ GE465.out) | exact HB.out)) hb)
                              clear HO_8
                              clear HO479
                              clear BK464
                              clear BK465
                              clear HR485
                              clear HR489
                              clear HB
                              have HO_8 := n0_
                              have HO479 := n1_
                              have BK464 := n2_
                              have BK465 := n3_
                              have HR485 := n4_
                              have HR489 := n5_
                              have HB := n6_
                              clear n0_ n1_ n2_ n3_ n4_ n5_ n6_
                              (try clear hb)
                              (try clear hb2)
                              (try clear hk)
                              (try clear hi)
                              refine hK.out _ _ trivial (fun hHeld => ?_)
                              clear hK K
                              refine norm_ (a' := ?_) ?_ ?_
                              rotate_left
                              · show Act.put _ (some 67) _ = _
                                simp only [Act.put, List.setIfInBounds_toArray, List.set_cons_zero, List.set_cons_succ, i64_w, i32_w]
                                rfl
                              refine pure_ (i := 5) (N := some 62) (v := ?_) (a' := ?_) #[true, true, true, true, true, true, false, false, false, false, false] rfl rfl (any_of HT_.out (by kernel_rfl)) (fun _ _ _ h => h) (Or.inl ⟨by rfl, ?_⟩) ?_ ?_
                              rotate_left
                              · intro w'
                                go_simp
                                with_reducible rfl
                              rotate_left
                              · simp only [Act.put, List.setIfInBounds_toArray, List.set_cons_zero, List.set_cons_succ, i64_w, i32_w]
                                rfl
                              refine pure_ (i := 6) (N := some 68) (v := ?_) (a' := ?_) #[true, true, true, true, true, true, true, false, false, false, false] rfl rfl (any_of HT_.out (by kernel_rfl)) (fun _ _ _ h => h) (Or.inl ⟨by rfl, ?_⟩) ?_ ?_
                              rotate_left
                              · intro w'
                                go_simp
                                with_reducible rfl
                              rotate_left
                              · simp only [Act.put, List.setIfInBounds_toArray, List.set_cons_zero, List.set_cons_succ, i64_w, i32_w]
                                rfl
                              refine pure_ (i := 7) (N := some 69) (v := ?_) (a' := ?_) #[true, true, true, true, true, true, true, true, false, false, false] rfl rfl (any_of HT_.out (by kernel_rfl)) (fun _ _ _ h => h) (Or.inl ⟨by rfl, ?_⟩) ?_ ?_
                              rotate_left
                              · intro w'
                                go_simp
                                with_reducible rfl
                              rotate_left
                              · simp only [Act.put, List.setIfInBounds_toArray, List.set_cons_zero, List.set_cons_succ, i64_w, i32_w]
                                rfl
                              refine one_ (i := 8) (N := some 13) #[true, true, true, true, true, true, true, true, true, false, false] rfl rfl (one_of HT_.out (by kernel_rfl)) (by decide) (fun K hK => ?_)
                              refine box_step ?hg (N := 13) ?hd (cs := #[.int .i64 0, .int .i64 0, .int .i64 0]) (t := 31) ?hr ?_; (case hd => rfl); (case hg => rfl); (case hr => first | (go_simp; done) | (go_simp; rfl))
                              intro gb494 hg w93 hbox hb
                              have n0_ := Aside0.mk (Kd.R_below (by (with_reducible repeat (first | apply Kd.R_alloc | apply Kd.R_drewN | apply Kd.R_drew)); exact HO_8.out) hb)
                              have n1_ := Aside0.mk (Kd.R_below (by (with_reducible repeat (first | apply Kd.R_alloc | apply Kd.R_drewN | apply Kd.R_drew)); exact HO479.out) hb)
                              have n2_ := Aside0.mk (blk_below (g := gb464) (o := .cells #[.int .i64 a0_0, .int .i64 a0_1, .int .i64 a0_2] 31 (0, 0)) (by (with_reducible repeat (first | refine blk_drewN ?_ _ | refine blk_drew ?_ | refine blk_alloc ?_ _)); exact BK464.out) hb)
                              have n3_ := Aside0.mk (blk_below (g := gb465) (o := .cells #[.int .i64 a2_0, .int .i64 a2_1] 45 (0, 0)) (by (with_reducible repeat (first | refine blk_drewN ?_ _ | refine blk_drew ?_ | refine blk_alloc ?_ _)); exact BK465.out) hb)
                              have n4_ := Aside0.mk (Kd.C_below (by repeat (first | (with_reducible exact HR485.out) | (with_reducible refine Kd.C_alloc ?_ _) | (with_reducible refine Kd.C_drewN ?_ _) | (with_reducible refine Kd.C_drew ?_) | exact HR485.out)) hb)
                              have n5_ := Aside0.mk (Kd.C_below (by repeat (first | (with_reducible exact HR489.out) | (with_reducible refine Kd.C_alloc ?_ _) | (with_reducible refine Kd.C_drewN ?_ _) | (with_reducible refine Kd.C_drew ?_) | exact HR489.out)) hb)
                              have n6_ := Aside0.mk (below_step (by repeat (first | (with_reducible first | exact HB.out | apply below_alloc | apply pw_below_drewN | apply below_drew1 | refine below_set ?_ GE464.out | refine below_set ?_ GE465.out) | exact HB.out)) hb)
                              have n7_ := Aside0.mk (hbox)
                              have n8_ := Aside0.mk ((by rw [hg]; exact (below_size (by repeat (first | (with_reducible first | exact HB.out | apply below_alloc | apply pw_below_drewN | apply below_drew1 | refine below_set ?_ GE464.out | refine below_set ?_ GE465.out) | exact HB.out))) : w.heap.size ≤ gb494))
                              have n9_ := Aside0.mk ((by rw [hg]; exact (below_size (by repeat (first | (with_reducible first | exact HB.out | apply below_alloc | apply pw_below_drewN | apply below_drew1 | refine below_set ?_ GE464.out | refine below_set ?_ GE465.out) | exact HB.out))) : w.heap.size ≤ gb494))
                              have n10_ := Aside0.mk ((by rw [hg]; exact Nat.ne_of_lt (blk_lt (g := gb464) (o := .cells #[.int .i64 a0_0, .int .i64 a0_1, .int .i64 a0_2] 31 (0, 0)) (by (with_reducible repeat (first | refine blk_drewN ?_ _ | refine blk_drew ?_ | refine blk_alloc ?_ _)); exact BK464.out)) : gb464 ≠ gb494))
                              have n11_ := Aside0.mk ((by rw [hg]; exact Nat.ne_of_gt (blk_lt (g := gb464) (o := .cells #[.int .i64 a0_0, .int .i64 a0_1, .int .i64 a0_2] 31 (0, 0)) (by (with_reducible repeat (first | refine blk_drewN ?_ _ | refine blk_drew ?_ | refine blk_alloc ?_ _)); exact BK464.out)) : gb494 ≠ gb464))
                              have n12_ := Aside0.mk ((by rw [hg]; exact Nat.ne_of_lt (blk_lt (g := gb465) (o := .cells #[.int .i64 a2_0, .int .i64 a2_1] 45 (0, 0)) (by (with_reducible repeat (first | refine blk_drewN ?_ _ | refine blk_drew ?_ | refine blk_alloc ?_ _)); exact BK465.out)) : gb465 ≠ gb494))
                              have n13_ := Aside0.mk ((by rw [hg]; exact Nat.ne_of_gt (blk_lt (g := gb465) (o := .cells #[.int .i64 a2_0, .int .i64 a2_1] 45 (0, 0)) (by (with_reducible repeat (first | refine blk_drewN ?_ _ | refine blk_drew ?_ | refine blk_alloc ?_ _)); exact BK465.out)) : gb494 ≠ gb465))
                              clear HO_8
                              clear HO479
                              clear BK464
                              clear BK465
                              clear HR485
                              clear HR489
                              clear HB
                              have HO_8 := n0_
                              have HO479 := n1_
                              have BK464 := n2_
                              have BK465 := n3_
                              have HR485 := n4_
                              have HR489 := n5_
                              have HB := n6_
                              have BK494 := n7_
                              have GW494 := n8_
                              have GE494 := n9_
                              have NB464_494 := n10_
                              have NB494_464 := n11_
                              have NB465_494 := n12_
                              have NB494_465 := n13_
                              clear n0_ n1_ n2_ n3_ n4_ n5_ n6_ n7_ n8_ n9_ n10_ n11_ n12_ n13_
                              clear hb hbox hg
                              refine hK.out _ _ trivial (fun hHeld => ?_)
                              clear hK K
                              refine norm_ (a' := ?_) ?_ ?_
                              rotate_left
                              · show Act.put _ (some 13) _ = _
                                simp only [Act.put, List.setIfInBounds_toArray, List.set_cons_zero, List.set_cons_succ, i64_w, i32_w]
                                rfl
                              exact norm_ (by simp only [putAll, Act.put, List.setIfInBounds_toArray, List.set_cons_zero, List.set_cons_succ]) (hCont (gb494) _ ⟨(by (with_reducible repeat (first | apply Kd.R_alloc | apply Kd.R_drewN | apply Kd.R_drew)); exact HO479.out), (by (with_reducible repeat (first | apply Kd.R_alloc | apply Kd.R_drewN | apply Kd.R_drew)); exact Kd.R_mono HO_8.out (fun _ hk => hk.2)), (by (with_reducible repeat (first | refine blk_drewN ?_ _ | refine blk_drew ?_ | refine blk_alloc ?_ _)); exact BK464.out), (by (with_reducible repeat (first | refine blk_drewN ?_ _ | refine blk_drew ?_ | refine blk_alloc ?_ _)); exact BK465.out), (by (with_reducible repeat (first | refine blk_drewN ?_ _ | refine blk_drew ?_ | refine blk_alloc ?_ _)); exact BK494.out), GW494.out, GE494.out, NB464_494.out, NB494_464.out, NB465_494.out, NB494_465.out, (by repeat (first | (with_reducible first | exact HB.out | apply below_alloc | apply pw_below_drewN | apply below_drew1 | refine below_set ?_ GE464.out | refine below_set ?_ GE465.out | refine below_set ?_ GE494.out) | exact HB.out))⟩)
                            · skip
                              refine box_step ?hg (N := 13) ?hd (cs := #[.int .i64 0, .int .i64 0, .int .i64 0]) (t := 31) ?hr ?_; (case hd => rfl); (case hg => rfl); (case hr => first | (go_simp; done) | (go_simp; rfl))
                              intro gb494 hg w92 hbox hb
                              have n0_ := Aside0.mk (Kd.R_below (by (with_reducible repeat (first | apply Kd.R_alloc | apply Kd.R_drewN | apply Kd.R_drew)); exact HO_8.out) hb)
                              have n1_ := Aside0.mk (Kd.R_below (by (with_reducible repeat (first | apply Kd.R_alloc | apply Kd.R_drewN | apply Kd.R_drew)); exact HO479.out) hb)
                              have n2_ := Aside0.mk (blk_below (g := gb464) (o := .cells #[.int .i64 a0_0, .int .i64 a0_1, .int .i64 a0_2] 31 (0, 0)) (by (with_reducible repeat (first | refine blk_drewN ?_ _ | refine blk_drew ?_ | refine blk_alloc ?_ _)); exact BK464.out) hb)
                              have n3_ := Aside0.mk (blk_below (g := gb465) (o := .cells #[.int .i64 a2_0, .int .i64 a2_1] 45 (0, 0)) (by (with_reducible repeat (first | refine blk_drewN ?_ _ | refine blk_drew ?_ | refine blk_alloc ?_ _)); exact BK465.out) hb)
                              have n4_ := Aside0.mk (Kd.C_below (by repeat (first | (with_reducible exact HR485.out) | (with_reducible refine Kd.C_alloc ?_ _) | (with_reducible refine Kd.C_drewN ?_ _) | (with_reducible refine Kd.C_drew ?_) | exact HR485.out)) hb)
                              have n5_ := Aside0.mk (Kd.C_below (by repeat (first | (with_reducible exact HR489.out) | (with_reducible refine Kd.C_alloc ?_ _) | (with_reducible refine Kd.C_drewN ?_ _) | (with_reducible refine Kd.C_drew ?_) | exact HR489.out)) hb)
                              have n6_ := Aside0.mk (below_step (by repeat (first | (with_reducible first | exact HB.out | apply below_alloc | apply pw_below_drewN | apply below_drew1 | refine below_set ?_ GE464.out | refine below_set ?_ GE465.out) | exact HB.out)) hb)
                              have n7_ := Aside0.mk (hbox)
                              have n8_ := Aside0.mk ((by rw [hg]; exact (below_size (by repeat (first | (with_reducible first | exact HB.out | apply below_alloc | apply pw_below_drewN | apply below_drew1 | refine below_set ?_ GE464.out | refine below_set ?_ GE465.out) | exact HB.out))) : w.heap.size ≤ gb494))
                              have n9_ := Aside0.mk ((by rw [hg]; exact (below_size (by repeat (first | (with_reducible first | exact HB.out | apply below_alloc | apply pw_below_drewN | apply below_drew1 | refine below_set ?_ GE464.out | refine below_set ?_ GE465.out) | exact HB.out))) : w.heap.size ≤ gb494))
                              have n10_ := Aside0.mk ((by rw [hg]; exact Nat.ne_of_lt (blk_lt (g := gb464) (o := .cells #[.int .i64 a0_0, .int .i64 a0_1, .int .i64 a0_2] 31 (0, 0)) (by (with_reducible repeat (first | refine blk_drewN ?_ _ | refine blk_drew ?_ | refine blk_alloc ?_ _)); exact BK464.out)) : gb464 ≠ gb494))
                              have n11_ := Aside0.mk ((by rw [hg]; exact Nat.ne_of_gt (blk_lt (g := gb464) (o := .cells #[.int .i64 a0_0, .int .i64 a0_1, .int .i64 a0_2] 31 (0, 0)) (by (with_reducible repeat (first | refine blk_drewN ?_ _ | refine blk_drew ?_ | refine blk_alloc ?_ _)); exact BK464.out)) : gb494 ≠ gb464))
                              have n12_ := Aside0.mk ((by rw [hg]; exact Nat.ne_of_lt (blk_lt (g := gb465) (o := .cells #[.int .i64 a2_0, .int .i64 a2_1] 45 (0, 0)) (by (with_reducible repeat (first | refine blk_drewN ?_ _ | refine blk_drew ?_ | refine blk_alloc ?_ _)); exact BK465.out)) : gb465 ≠ gb494))
                              have n13_ := Aside0.mk ((by rw [hg]; exact Nat.ne_of_gt (blk_lt (g := gb465) (o := .cells #[.int .i64 a2_0, .int .i64 a2_1] 45 (0, 0)) (by (with_reducible repeat (first | refine blk_drewN ?_ _ | refine blk_drew ?_ | refine blk_alloc ?_ _)); exact BK465.out)) : gb494 ≠ gb465))
                              clear HO_8
                              clear HO479
                              clear BK464
                              clear BK465
                              clear HR485
                              clear HR489
                              clear HB
                              have HO_8 := n0_
                              have HO479 := n1_
                              have BK464 := n2_
                              have BK465 := n3_
                              have HR485 := n4_
                              have HR489 := n5_
                              have HB := n6_
                              have BK494 := n7_
                              have GW494 := n8_
                              have GE494 := n9_
                              have NB464_494 := n10_
                              have NB494_464 := n11_
                              have NB465_494 := n12_
                              have NB494_465 := n13_
                              clear n0_ n1_ n2_ n3_ n4_ n5_ n6_ n7_ n8_ n9_ n10_ n11_ n12_ n13_
                              clear hb hbox hg
                              refine hK.out _ _ trivial (fun hHeld => ?_)
                              clear hK K
                              refine norm_ (a' := ?_) ?_ ?_
                              rotate_left
                              · show Act.put _ (some 13) _ = _
                                simp only [Act.put, List.setIfInBounds_toArray, List.set_cons_zero, List.set_cons_succ, i64_w, i32_w]
                                rfl
                              refine one_ (i := 4) (N := some 67) #[true, true, true, true, true, false, false, false, true, false, false] rfl rfl (one_of HT_.out (by kernel_rfl)) (by decide) (fun K hK => ?_)
                              refine goes_ Try.func30 (by kernel_rfl) rfl #[.slice (some ⟨go28, 0, none⟩) y482.length co86, .slice A91 y486.length c91] (by rfl) rfl rfl (by (try simp only [List.map_toArray, List.map_cons, List.map_nil]); first | done | rfl | (simp only [List.length_drop, List.length_take]; rfl)) ?_
                              with_reducible refine (oob_Unpack.calls kj5 _ _ y482 _ _ y486 t490 t491 t492 t493 _ ?side1 ?side2 ?side3 ?side4 A31.out).mono ?_
                              (case side1 => repeat (first | exact (by repeat (first | (with_reducible exact HR485.out) | (with_reducible refine Kd.C_alloc ?_ _) | (with_reducible refine Kd.C_drewN ?_ _) | (with_reducible refine Kd.C_drew ?_) | exact HR485.out)) | (with_reducible refine Kd.C_alloc ?_ _) | (with_reducible refine Kd.C_drewN ?_ _) | (with_reducible refine Kd.C_drew ?_)))
                              (case side2 => exact HC485.out)
                              (case side3 => repeat (first | exact (by repeat (first | (with_reducible exact HR489.out) | (with_reducible refine Kd.C_alloc ?_ _) | (with_reducible refine Kd.C_drewN ?_ _) | (with_reducible refine Kd.C_drew ?_) | exact HR489.out)) | (with_reducible refine Kd.C_alloc ?_ _) | (with_reducible refine Kd.C_drewN ?_ _) | (with_reducible refine Kd.C_drew ?_)))
                              (case side4 => exact HC489.out)
                              rintro e w93 ⟨rfl, hb⟩
                              refine ⟨_, rfl, ?_⟩
                              have n0_ := Aside0.mk (Kd.R_below (by (with_reducible repeat (first | apply Kd.R_alloc | apply Kd.R_drewN | apply Kd.R_drew)); exact HO_8.out) hb)
                              have n1_ := Aside0.mk (Kd.R_below (by (with_reducible repeat (first | apply Kd.R_alloc | apply Kd.R_drewN | apply Kd.R_drew)); exact HO479.out) hb)
                              have n2_ := Aside0.mk (blk_below (g := gb464) (o := .cells #[.int .i64 a0_0, .int .i64 a0_1, .int .i64 a0_2] 31 (0, 0)) (by (with_reducible repeat (first | refine blk_drewN ?_ _ | refine blk_drew ?_ | refine blk_alloc ?_ _)); exact BK464.out) hb)
                              have n3_ := Aside0.mk (blk_below (g := gb465) (o := .cells #[.int .i64 a2_0, .int .i64 a2_1] 45 (0, 0)) (by (with_reducible repeat (first | refine blk_drewN ?_ _ | refine blk_drew ?_ | refine blk_alloc ?_ _)); exact BK465.out) hb)
                              have n4_ := Aside0.mk (Kd.C_below (by repeat (first | (with_reducible exact HR485.out) | (with_reducible refine Kd.C_alloc ?_ _) | (with_reducible refine Kd.C_drewN ?_ _) | (with_reducible refine Kd.C_drew ?_) | exact HR485.out)) hb)
                              have n5_ := Aside0.mk (Kd.C_below (by repeat (first | (with_reducible exact HR489.out) | (with_reducible refine Kd.C_alloc ?_ _) | (with_reducible refine Kd.C_drewN ?_ _) | (with_reducible refine Kd.C_drew ?_) | exact HR489.out)) hb)
                              have n6_ := Aside0.mk (blk_below (g := gb494) (o := .cells #[.int .i64 0, .int .i64 0, .int .i64 0] 31 (0, 0)) (by (with_reducible repeat (first | refine blk_drewN ?_ _ | refine blk_drew ?_ | refine blk_alloc ?_ _)); exact BK494.out) hb)
                              have n7_ := Aside0.mk (below_step (by repeat (first | (with_reducible first | exact HB.out | apply below_alloc | apply pw_below_drewN | apply below_drew1 | refine below_set ?_ GE464.out | refine below_set ?_ GE465.out | refine below_set ?_ GE494.out) | exact HB.out)) hb)
                              clear HO_8
                              clear HO479
                              clear BK464
                              clear BK465
                              clear HR485
                              clear HR489
                              clear BK494
                              clear HB
                              have HO_8 := n0_
                              have HO479 := n1_
                              have BK464 := n2_
                              have BK465 := n3_
                              have HR485 := n4_
                              have HR489 := n5_
                              have BK494 := n6_
                              have HB := n7_
                              clear n0_ n1_ n2_ n3_ n4_ n5_ n6_ n7_
                              (try clear hb)
                              (try clear hb2)
                              (try clear hk)
                              (try clear hi)
                              refine hK.out _ _ trivial (fun hHeld => ?_)
                              clear hK K
                              refine norm_ (a' := ?_) ?_ ?_
                              rotate_left
                              · show Act.put _ (some 67) _ = _
                                simp only [Act.put, List.setIfInBounds_toArray, List.set_cons_zero, List.set_cons_succ, i64_w, i32_w]
                                rfl
                              refine pure_ (i := 5) (N := some 62) (v := ?_) (a' := ?_) #[true, true, true, true, true, true, false, false, true, false, false] rfl rfl (any_of HT_.out (by kernel_rfl)) (fun _ _ _ h => h) (Or.inl ⟨by rfl, ?_⟩) ?_ ?_
                              rotate_left
                              · intro w'
                                go_simp
                                with_reducible rfl
                              rotate_left
                              · simp only [Act.put, List.setIfInBounds_toArray, List.set_cons_zero, List.set_cons_succ, i64_w, i32_w]
                                rfl
                              refine pure_ (i := 6) (N := some 68) (v := ?_) (a' := ?_) #[true, true, true, true, true, true, true, false, true, false, false] rfl rfl (any_of HT_.out (by kernel_rfl)) (fun _ _ _ h => h) (Or.inl ⟨by rfl, ?_⟩) ?_ ?_
                              rotate_left
                              · intro w'
                                go_simp
                                with_reducible rfl
                              rotate_left
                              · simp only [Act.put, List.setIfInBounds_toArray, List.set_cons_zero, List.set_cons_succ, i64_w, i32_w]
                                rfl
                              refine pure_ (i := 7) (N := some 69) (v := ?_) (a' := ?_) #[true, true, true, true, true, true, true, true, true, false, false] rfl rfl (any_of HT_.out (by kernel_rfl)) (fun _ _ _ h => h) (Or.inl ⟨by rfl, ?_⟩) ?_ ?_
                              rotate_left
                              · intro w'
                                go_simp
                                with_reducible rfl
                              rotate_left
                              · simp only [Act.put, List.setIfInBounds_toArray, List.set_cons_zero, List.set_cons_succ, i64_w, i32_w]
                                rfl
                              exact norm_ (by simp only [putAll, Act.put, List.setIfInBounds_toArray, List.set_cons_zero, List.set_cons_succ]) (hCont (gb494) _ ⟨(by (with_reducible repeat (first | apply Kd.R_alloc | apply Kd.R_drewN | apply Kd.R_drew)); exact HO479.out), (by (with_reducible repeat (first | apply Kd.R_alloc | apply Kd.R_drewN | apply Kd.R_drew)); exact Kd.R_mono HO_8.out (fun _ hk => hk.2)), (by (with_reducible repeat (first | refine blk_drewN ?_ _ | refine blk_drew ?_ | refine blk_alloc ?_ _)); exact BK464.out), (by (with_reducible repeat (first | refine blk_drewN ?_ _ | refine blk_drew ?_ | refine blk_alloc ?_ _)); exact BK465.out), (by (with_reducible repeat (first | refine blk_drewN ?_ _ | refine blk_drew ?_ | refine blk_alloc ?_ _)); exact BK494.out), GW494.out, GE494.out, NB464_494.out, NB494_464.out, NB465_494.out, NB494_465.out, (by repeat (first | (with_reducible first | exact HB.out | apply below_alloc | apply pw_below_drewN | apply below_drew1 | refine below_set ?_ GE464.out | refine below_set ?_ GE465.out | refine below_set ?_ GE494.out) | exact HB.out))⟩)
                          rintro gb494 w94 ⟨h0_, h1_, h2_, h3_, h4_, h5_, h6_, h7_, h8_, h9_, h10_, h11_⟩
                          have n0_ : Aside0 (Kd.R (Kd.int .u8) 5 w94 w.heap.size (fun k_ => some k_ ≠ (.slice Ao79 t467.length co79 : Value).ownBlock) (.slice (some ⟨go28, 0, none⟩) y477.length co86) y481) := ⟨h0_⟩
                          have n1_ : Aside0 (Kd.R (Kd.int .u8) 5 w94 w.heap.size (fun k_ => some k_ ≠ (.slice (some ⟨go28, 0, none⟩) y477.length co86 : Value).ownBlock) (.slice Ao79 t467.length co79) t467) := ⟨h1_⟩
                          have n2_ : Aside0 (w94.heap[gb464]? = some (.cells #[.int .i64 a0_0, .int .i64 a0_1, .int .i64 a0_2] 31 (0, 0))) := ⟨h2_⟩
                          have n3_ : Aside0 (w94.heap[gb465]? = some (.cells #[.int .i64 a2_0, .int .i64 a2_1] 45 (0, 0))) := ⟨h3_⟩
                          have n4_ : Aside0 (w94.heap[gb494]? = some (.cells #[.int .i64 0, .int .i64 0, .int .i64 0] 31 (0, 0))) := ⟨h4_⟩
                          have n5_ : Aside0 (w.heap.size ≤ gb494) := ⟨h5_⟩
                          have n6_ : Aside0 (w.heap.size ≤ gb494) := ⟨h6_⟩
                          have n7_ : Aside0 (gb464 ≠ gb494) := ⟨h7_⟩
                          have n8_ : Aside0 (gb494 ≠ gb464) := ⟨h8_⟩
                          have n9_ : Aside0 (gb465 ≠ gb494) := ⟨h9_⟩
                          have n10_ : Aside0 (gb494 ≠ gb465) := ⟨h10_⟩
                          have n11_ : Aside0 (Below w.heap.size w w94) := ⟨h11_⟩
                          clear HO_8
                          clear HO479
                          clear BK464
                          clear BK465
                          clear HB
                          clear h0_ h1_ h2_ h3_ h4_ h5_ h6_ h7_ h8_ h9_ h10_ h11_
                          have HO479 := n0_
                          have HO_8 := n1_
                          have BK464 := n2_
                          have BK465 := n3_
                          have BK494 := n4_
                          have GW494 := n5_
                          have GE494 := n6_
                          have NB464_494 := n7_
                          have NB494_464 := n8_
                          have NB465_494 := n9_
                          have NB494_465 := n10_
                          have HB := n11_
                          clear n0_ n1_ n2_ n3_ n4_ n5_ n6_ n7_ n8_ n9_ n10_ n11_
                          have hHeld := trivial
                          refine norm_ (a' := ?_) ?_ ?_
                          rotate_left
                          · simp only [putAll, Act.put, List.setIfInBounds_toArray, List.set_cons_zero, List.set_cons_succ]
                            rfl
                          refine one_ (i := 9) (N := none) #[true, true, true, true, true, true, true, true, true, true, false] rfl rfl (one_of HT_.out (by kernel_rfl)) (by decide) (fun K hK => ?_)
                          have hs95 : w94.cell? ⟨gb494, 0, none⟩ = some (.int .i64 0) := (blk_cell BK494.out 0).trans rfl
                          have hfs95 := blk_frozen BK494.out 0
                          have hns95_0 := NB464_494.out
                          have hns95_1 := NB465_494.out
                          have hms95_0 := NB494_464.out
                          have hms95_1 := NB494_465.out
                          have hs96 : w94.cell? ⟨gb494, 1, none⟩ = some (.int .i64 0) := (blk_cell BK494.out 1).trans rfl
                          have hfs96 := blk_frozen BK494.out 1
                          have hns96_0 := NB464_494.out
                          have hns96_1 := NB465_494.out
                          have hms96_0 := NB494_464.out
                          have hms96_1 := NB494_465.out
                          have hs97 : w94.cell? ⟨gb494, 2, none⟩ = some (.int .i64 0) := (blk_cell BK494.out 2).trans rfl
                          have hfs97 := blk_frozen BK494.out 2
                          have hns97_0 := NB464_494.out
                          have hns97_1 := NB465_494.out
                          have hms97_0 := NB494_464.out
                          have hms97_1 := NB494_465.out
                          refine skip_ (w1 := ?_) (by rfl) rfl ?_ ?_
                          rotate_left
                          · go_simp
                            rfl
                          refine hK.out _ _ trivial (fun hHeld => ?_)
                          clear hK K
                          refine pure_ (i := 10) (N := some 14) (v := ?_) (a' := ?_) #[true, true, true, true, true, true, true, true, true, true, true] rfl rfl (any_of HT_.out (by kernel_rfl)) (fun _ _ _ h => h) (Or.inl ⟨by rfl, ?_⟩) ?_ ?_
                          rotate_left
                          · intro w'
                            go_simp
                            with_reducible rfl
                          rotate_left
                          · simp only [Act.put, List.setIfInBounds_toArray, List.set_cons_zero, List.set_cons_succ, i64_w, i32_w]
                            rfl
                          refine done_ (done_of HT_.out (by kernel_rfl)) ?_
                          have hnb98 := NB494_464.out
                          have hnc98 := NB464_494.out
                          have hnb99 := NB494_465.out
                          have hnc99 := NB465_494.out
                          have hcz100_0 : w94.cell? ⟨gb494, 0, none⟩ = some (.int .i64 0) := (blk_cell BK494.out 0).trans rfl
                          have hcz100_1 : w94.cell? ⟨gb494, 1, none⟩ = some (.int .i64 0) := (blk_cell BK494.out 1).trans rfl
                          have hcz100_2 : w94.cell? ⟨gb494, 2, none⟩ = some (.int .i64 0) := (blk_cell BK494.out 2).trans rfl
                          have hfz100_0 := blk_frozen BK494.out 0
                          have hfz100_1 := blk_frozen BK494.out 1
                          have hfz100_2 := blk_frozen BK494.out 2
                          try go_wp2
                          go_ret
                          exact ⟨by first | rfl | (simp [errW_none, errW_some] <;> rfl) | (simp only [← hji25]; first | rfl | (simp [errW_none, errW_some] <;> rfl)) | (simp [*, errW_none, errW_some] <;> rfl), by repeat (first | (with_reducible first | exact HB.out | apply below_alloc | apply pw_below_drewN | apply below_drew1 | refine below_set ?_ GE464.out | refine below_set ?_ GE465.out | refine below_set ?_ GE494.out) | exact HB.out)⟩
                      · replace c32 := Bool.eq_false_iff.mpr c32
                        subst c32
                        have H1 : (some false) = some r := by rw [if_neg (show ¬ (false = true) by decide)] at H; exact H
                        clear H
                        have H := H1
                        clear H1
                        obtain rfl := Option.some.inj H
                        obtain ⟨Ao101, co101, eo101⟩ := Kd.R_slice HO_8.out
                        subst eo101
                        try go_wp2_with (first | ((with_reducible refine gate_dst (N := 45) rfl ?_); (try (refine gate_guard (by rfl) ?_; dsimp only)); refine Kd.R_lit (Kd.int .u8) _ 5 ?hg (N := 45) ?hd (xs := ([] : List Int)) (inner := []) (ok := fun _ => True) (okp := fun _ => True) ?hr ?hp (fun _ hk => hk) trivial (Below.refl _ _) (Nat.le_refl _) (by simp) ?_; (case hd => rfl); (case hg => rfl); (case hr => first | (go_simp; done) | (go_simp; rfl)); (case hp => exact (Reps.none _ _)); intro v472 w102 ho103 hb hg_ hnew_; clear hg_ hnew_; (first | rw [← Ny471.out] at ho103 | (simp only [Int.reduceToNat] at ho103; rw [← Ny471.out] at ho103)); have n0_ := Aside0.mk (Kd.R_elder' (by (with_reducible repeat (first | apply Kd.R_alloc | apply Kd.R_drewN | apply Kd.R_drew)); exact HO_8.out) (Kd.R_base ho103) hb); have n1_ := Aside0.mk (Kd.R_lower (Kd.R_new' ho103 (Kd.R_lt (by (with_reducible repeat (first | apply Kd.R_alloc | apply Kd.R_drewN | apply Kd.R_drew)); exact HO_8.out))) (below_size (by repeat (first | (with_reducible first | exact HB.out | apply below_alloc | apply pw_below_drewN | apply below_drew1 | refine below_set ?_ GE464.out | refine below_set ?_ GE465.out) | exact HB.out)))); have n2_ := Aside0.mk (blk_below (g := gb464) (o := .cells #[.int .i64 a0_0, .int .i64 a0_1, .int .i64 a0_2] 31 (0, 0)) (by (with_reducible repeat (first | refine blk_drewN ?_ _ | refine blk_drew ?_ | refine blk_alloc ?_ _)); exact BK464.out) hb); have n3_ := Aside0.mk (blk_below (g := gb465) (o := .cells #[.int .i64 a2_0, .int .i64 a2_1] 45 (0, 0)) (by (with_reducible repeat (first | refine blk_drewN ?_ _ | refine blk_drew ?_ | refine blk_alloc ?_ _)); exact BK465.out) hb); have n4_ := Aside0.mk (below_step (by repeat (first | (with_reducible first | exact HB.out | apply below_alloc | apply pw_below_drewN | apply below_drew1 | refine below_set ?_ GE464.out | refine below_set ?_ GE465.out) | exact HB.out)) hb); clear HO_8; clear BK464; clear BK465; clear HB; have HO_8 := n0_; have HO473 := n1_; have BK464 := n2_; have BK465 := n3_; have HB := n4_; clear n0_ n1_ n2_ n3_ n4_; clear hb ho103) | ((with_reducible refine gate_builtin (b := .append) (xs := #[.tmp 45, .tmp 46]) rfl ?_); (try (refine gate_guard (by rfl) ?_; dsimp only)); at_builtin; refine Kd.R_append_rows (Kd.int .u8) (w0 := w) w.heap.size rfl (.tmp 45) (.tmp 46) 25 5 (.int .u8 0) 1 rfl Try.underlying25 info5 rfl (by decide) (by omega) v472 y471 t467 _ _ _ (fun k_ => some k_ ≠ (.slice Ao101 t467.length co101 : Value).ownBlock) (fun _ => False) rfl rfl ?aO ?aR (fun _ _ h => h) (fun _ h => h.elim) ?aF ?aB ?aS ?aL ?_; (case aR => repeat (first | exact (Kd.R_reads' HO_8.out).2.2 | (with_reducible refine Kd.C_alloc ?_ _) | (with_reducible refine Kd.C_drewN ?_ _) | (with_reducible refine Kd.C_drew ?_))); (case aB => exact (by repeat (first | (with_reducible first | exact HB.out | apply below_alloc | apply pw_below_drewN | apply below_drew1 | refine below_set ?_ GE464.out | refine below_set ?_ GE465.out) | exact HB.out))); (case aF => exact (fun k_ hk => Kd.fresh' (Kd.R_lt (by (with_reducible repeat (first | apply Kd.R_alloc | apply Kd.R_drewN | apply Kd.R_drew)); exact HO_8.out)) k_ hk)); (case aO => exact (by (with_reducible repeat (first | apply Kd.R_alloc | apply Kd.R_drewN | apply Kd.R_drew)); exact Kd.R_mono HO473.out (fun _ hk => hk.2))); (case aS => exact (below_size (by repeat (first | (with_reducible first | exact HB.out | apply below_alloc | apply pw_below_drewN | apply below_drew1 | refine below_set ?_ GE464.out | refine below_set ?_ GE465.out) | exact HB.out)))); (case aL => have := LMc23.out; omega); intro v475 w104 ho hb hg hat; rw [← Ny474.out] at ho; have n0_ := Aside0.mk (Kd.R_after (ok := (fun _ => True)) (by (with_reducible repeat (first | apply Kd.R_alloc | apply Kd.R_drewN | apply Kd.R_drew)); exact HO_8.out) hg hat); have n1_ := Aside0.mk (blk_grown (g := gb464) (o := .cells #[.int .i64 a0_0, .int .i64 a0_1, .int .i64 a0_2] 31 (0, 0)) (by (with_reducible repeat (first | refine blk_drewN ?_ _ | refine blk_drew ?_ | refine blk_alloc ?_ _)); exact BK464.out) hg (Kd.R_ne HO473.out BK464.out (by decide))); have n2_ := Aside0.mk (blk_grown (g := gb465) (o := .cells #[.int .i64 a2_0, .int .i64 a2_1] 45 (0, 0)) (by (with_reducible repeat (first | refine blk_drewN ?_ _ | refine blk_drew ?_ | refine blk_alloc ?_ _)); exact BK465.out) hg (Kd.R_ne HO473.out BK465.out (by decide))); have n3_ := Aside0.mk (hb); have n4_ := Aside0.mk (ho); clear HO_8; clear BK464; clear BK465; clear HB; clear HO473; have HO_8 := n0_; have BK464 := n1_; have BK465 := n2_; have HB := n3_; have HO476 := n4_; clear n0_ n1_ n2_ n3_ n4_; clear ho hb hg hat) | ((with_reducible refine gate_builtin (b := .append) (xs := #[.tmp 47, .tmp 48]) rfl ?_); (try (refine gate_guard (by rfl) ?_; dsimp only)); at_builtin; refine Kd.R_append_rows (Kd.int .u8) (w0 := w) w.heap.size rfl (.tmp 47) (.tmp 48) 25 5 (.int .u8 0) 1 rfl Try.underlying25 info5 rfl (by decide) (by omega) v475 y474 l1 _ _ _ (fun k_ => some k_ ≠ (.slice Ao101 t467.length co101 : Value).ownBlock) (fun _ => False) rfl rfl ?aO ?aR (fun _ _ h => h) (fun _ h => h.elim) ?aF ?aB ?aS ?aL ?_; (case aR => repeat (first | exact (Kd.C_below HR1.out HB.out) | (with_reducible refine Kd.C_alloc ?_ _) | (with_reducible refine Kd.C_drewN ?_ _) | (with_reducible refine Kd.C_drew ?_))); (case aB => exact (by repeat (first | (with_reducible first | exact HB.out | apply below_alloc | apply pw_below_drewN | apply below_drew1 | refine below_set ?_ GE464.out | refine below_set ?_ GE465.out) | exact HB.out))); (case aF => exact (fun k_ hk => Kd.fresh' (Kd.R_lt (by (with_reducible repeat (first | apply Kd.R_alloc | apply Kd.R_drewN | apply Kd.R_drew)); exact HO_8.out)) k_ hk)); (case aO => exact (by (with_reducible repeat (first | apply Kd.R_alloc | apply Kd.R_drewN | apply Kd.R_drew)); exact HO476.out)); (case aS => exact (below_size (by repeat (first | (with_reducible first | exact HB.out | apply below_alloc | apply pw_below_drewN | apply below_drew1 | refine below_set ?_ GE464.out | refine below_set ?_ GE465.out) | exact HB.out)))); (case aL => have := LMc24.out; omega); intro v478 w105 ho hb hg hat; rw [← Ny477.out] at ho; have n0_ := Aside0.mk (Kd.R_after (ok := (fun _ => True)) (by (with_reducible repeat (first | apply Kd.R_alloc | apply Kd.R_drewN | apply Kd.R_drew)); exact HO_8.out) hg hat); have n1_ := Aside0.mk (blk_grown (g := gb464) (o := .cells #[.int .i64 a0_0, .int .i64 a0_1, .int .i64 a0_2] 31 (0, 0)) (by (with_reducible repeat (first | refine blk_drewN ?_ _ | refine blk_drew ?_ | refine blk_alloc ?_ _)); exact BK464.out) hg (Kd.R_ne HO476.out BK464.out (by decide))); have n2_ := Aside0.mk (blk_grown (g := gb465) (o := .cells #[.int .i64 a2_0, .int .i64 a2_1] 45 (0, 0)) (by (with_reducible repeat (first | refine blk_drewN ?_ _ | refine blk_drew ?_ | refine blk_alloc ?_ _)); exact BK465.out) hg (Kd.R_ne HO476.out BK465.out (by decide))); have n3_ := Aside0.mk (hb); have n4_ := Aside0.mk (ho); clear HO_8; clear BK464; clear BK465; clear HB; clear HO476; have HO_8 := n0_; have BK464 := n1_; have BK465 := n2_; have HB := n3_; have HO479 := n4_; clear n0_ n1_ n2_ n3_ n4_; clear ho hb hg hat; have hnb106 := NB465_464.out; have hnc106 := NB464_465.out; have hcz107_0 : w105.cell? ⟨gb465, 0, none⟩ = some (.int .i64 a2_0) := (blk_cell BK465.out 0).trans rfl; have hcz107_1 : w105.cell? ⟨gb465, 1, none⟩ = some (.int .i64 a2_1) := (blk_cell BK465.out 1).trans rfl; have hfz107_0 := blk_frozen BK465.out 0; have hfz107_1 := blk_frozen BK465.out 1; obtain ⟨Ao108, co108, eo108⟩ := Kd.R_slice HO479.out; subst eo108; have p480 : 0 ≤ ((ji25) : Int) := of_decide_eq_true (by first | (with_reducible assumption) | assumption); have q480 : (ji25) < (y477.length : Int) := of_decide_eq_true (by first | (with_reducible assumption) | assumption); obtain ⟨ad480, e480, hx480_0⟩ := Kd.at_int (Kd.R_reads' HO479.out).2.2 (ji25) p480 q480; cases e480; replace p480 := eq_true p480; replace q480 := eq_true q480; have p28 : 0 ≤ ((ji25) : Int) := of_decide_eq_true (by first | (with_reducible assumption) | assumption); have q28 : ((ji25) : Int) < ((y477.length : Int) : Int) := of_decide_eq_true (by first | (with_reducible assumption) | assumption); obtain ⟨go28, co28, eo28, gb28, gl28, cl28, HG28⟩ := Kd.R_form HO479.out (by omega); (first | cases eo28 | (injection eo28 with ea_ en_ ec_; (first | subst ea_ | (injection ea_ with ea_; subst ea_)); subst ec_; clear en_)); have GB28 := Aside0.mk gb28; have GG28 := Aside0.mk HG28; clear gb28 gl28 HG28; (first | simp only [add_plain] at hx480_0 | skip); obtain ⟨hx28_0, hf28_0⟩ := Kd.R_celln 0 HO479.out ((ji25) : Int) p28 q28; replace p28 := eq_true p28; replace q28 := eq_true q28; obtain ⟨hy109_, hz109_⟩ := Kd.R_celln 0 HO479.out ((ji25) : Int) (of_decide_eq_true (by first | (with_reducible assumption) | assumption)) (of_decide_eq_true (by first | (with_reducible assumption) | assumption)); have HP109 := Kd.R_putg HO479.out ((ji25) : Int) (Go.bits .xor .u8 (rd y477 (ji25)) ((a2_1) % 256))) | ((with_reducible refine gate_store (t := 5) (p := 61) rfl ?_); refine store_event (t := 5) (p := 61) (v := ?vo_w110) (w1 := (w105.setCell ⟨go28, ((ji25) : Int).toNat, none⟩ (.int .u8 (Go.bits .xor .u8 (rd y477 (ji25)) ((a2_1) % 256))))) ?hg ?ho ?hn ?hr ?_; (case ho => rfl); (case hg => rfl); (case hn => rfl); (case hr => first | (go_simp; done) | (go_simp; rfl)); intro w110 hw; have hg : w105.grownBy w110 (some go28) := (by rw [hw]; exact HP109.2); have hp_ : Kd.R (Kd.int .u8) 5 w110 w.heap.size (fun k_ => some k_ ≠ (.slice Ao101 t467.length co101 : Value).ownBlock) (.slice (some ⟨go28, 0, none⟩) y477.length co108) y481 := (by rw [hw, Ny481.out]; exact HP109.1); clear HP109; have n0_ := Aside0.mk (Kd.R_after (v := (.slice (some ⟨go28, 0, none⟩) y477.length co108)) (v1 := (.slice (some ⟨go28, 0, none⟩) y477.length co108)) (ok := (fun _ => True)) (by (with_reducible repeat (first | apply Kd.R_alloc | apply Kd.R_drewN | apply Kd.R_drew)); exact HO_8.out) hg (.inl rfl)); have n1_ := Aside0.mk (blk_grown (g := gb464) (o := .cells #[.int .i64 a0_0, .int .i64 a0_1, .int .i64 a0_2] 31 (0, 0)) (by (with_reducible repeat (first | refine blk_drewN ?_ _ | refine blk_drew ?_ | refine blk_alloc ?_ _)); exact BK464.out) hg (Kd.R_ne HO479.out BK464.out (by decide))); have n2_ := Aside0.mk (blk_grown (g := gb465) (o := .cells #[.int .i64 a2_0, .int .i64 a2_1] 45 (0, 0)) (by (with_reducible repeat (first | refine blk_drewN ?_ _ | refine blk_drew ?_ | refine blk_alloc ?_ _)); exact BK465.out) hg (Kd.R_ne HO479.out BK465.out (by decide))); have n3_ := Aside0.mk (hp_); have n4_ := Aside0.mk ((by rw [hw]; exact below_set (HB.out) GB28.out : Below w.heap.size w w110)); clear HO_8; clear BK464; clear BK465; clear HO479; clear HB; have HO_8 := n0_; have BK464 := n1_; have BK465 := n2_; have HO479 := n3_; have HB := n4_; clear n0_ n1_ n2_ n3_ n4_; clear hg hw hp_))
                        (try (rw [drewN_self w110]; generalize hq_ : World.drewN w110 _ = w110; have n0_ : Aside0 (Kd.R (Kd.int .u8) 5 w110 w.heap.size (fun k_ => some k_ ≠ (.slice Ao101 t467.length co101 : Value).ownBlock) (.slice (some ⟨go28, 0, none⟩) y477.length co108) y481) := ⟨by rw [← hq_]; exact (by (with_reducible repeat (first | apply Kd.R_alloc | apply Kd.R_drewN | apply Kd.R_drew)); exact HO479.out)⟩; have n1_ : Aside0 (Kd.R (Kd.int .u8) 5 w110 w.heap.size (fun k_ => some k_ ≠ (.slice (some ⟨go28, 0, none⟩) y477.length co108 : Value).ownBlock) (.slice Ao101 t467.length co101) t467) := ⟨by rw [← hq_]; exact (by (with_reducible repeat (first | apply Kd.R_alloc | apply Kd.R_drewN | apply Kd.R_drew)); exact Kd.R_mono HO_8.out (fun _ hk => hk.2))⟩; have n2_ : Aside0 (w110.heap[gb464]? = some (.cells #[.int .i64 a0_0, .int .i64 a0_1, .int .i64 a0_2] 31 (0, 0))) := ⟨by rw [← hq_]; exact (by (with_reducible repeat (first | refine blk_drewN ?_ _ | refine blk_drew ?_ | refine blk_alloc ?_ _)); exact BK464.out)⟩; have n3_ : Aside0 (w110.heap[gb465]? = some (.cells #[.int .i64 a2_0, .int .i64 a2_1] 45 (0, 0))) := ⟨by rw [← hq_]; exact (by (with_reducible repeat (first | refine blk_drewN ?_ _ | refine blk_drew ?_ | refine blk_alloc ?_ _)); exact BK465.out)⟩; have n4_ : Aside0 (Below w.heap.size w w110) := ⟨by rw [← hq_]; exact (by repeat (first | (with_reducible first | exact HB.out | apply below_alloc | apply pw_below_drewN | apply below_drew1 | refine below_set ?_ GE464.out | refine below_set ?_ GE465.out) | exact HB.out))⟩; clear HO479 HO_8 BK464 BK465 HB hq_; have HO479 := n0_; have HO_8 := n1_; have BK464 := n2_; have BK465 := n3_; have HB := n4_; clear n0_ n1_ n2_ n3_ n4_))
                        have n0_ := Aside0.mk (Kd.R_drew HO_8.out)
                        have n1_ := Aside0.mk (Kd.R_drew HO479.out)
                        have n2_ := Aside0.mk (blk_drew BK464.out)
                        have n3_ := Aside0.mk (blk_drew BK465.out)
                        have n4_ := Aside0.mk (below_drew1 HB.out)
                        clear HO_8
                        clear HO479
                        clear BK464
                        clear BK465
                        clear HB
                        have HO_8 := n0_
                        have HO479 := n1_
                        have BK464 := n2_
                        have BK465 := n3_
                        have HB := n4_
                        clear n0_ n1_ n2_ n3_ n4_
                        have hlx112 := (Kd.R_reads' HO479.out).1
                        have q112 : (17 : Int) ≤ ((y477.length : Int) : Int) := of_decide_eq_true (by first | (with_reducible assumption) | assumption)
                        obtain ⟨i0112, hi0112, _, hsz112, _⟩ := info_parts info5
                        have hroom112 : y477.length ≤ co108 := (Kd.R_reads' HO479.out).2.1
                        have hroomc112 : y481.length ≤ co108 := (by rw [← hlx112]; exact hroom112)
                        have hC112 : Kd.C (Kd.int .u8) _ (some ⟨go28, 0, none⟩) y481.length y481 := (Kd.R_reads' HO479.out).2.2
                        have hcut112 := cut_to (P := Try.prog) 25 5 .i64 Try.underlying25 hi0112 (some ⟨go28, 0, none⟩) y477.length co108 17 (by omega) q112 hroom112
                        have hr112 := Kd.C_take (m := 17) hC112 (by omega)
                        have hy112 : y482.length = (17 : Int).toNat := (by rw [Ny482.out, List.length_take]; omega)
                        rw [← Ny482.out] at hr112
                        rw [← hy112] at hcut112
                        have HR485 := Aside0.mk hr112
                        have HC485 := Aside0.mk (show y482.length ≤ co108 from by omega)
                        clear hr112 hC112 hroom112 hi0112 hsz112 hroomc112
                        have KY112 := Aside0.mk hy112
                        clear hy112
                        have KE112 := Aside0.mk hlx112
                        have KL112 := Aside0.mk (show 17 ≤ y481.length from by omega)
                        clear hlx112
                        replace q112 := eq_true q112
                        have hlx113 := (Kd.R_reads' HO479.out).1
                        have q113 : (17 : Int) ≤ ((y477.length : Int) : Int) := of_decide_eq_true (by first | (with_reducible assumption) | assumption)
                        obtain ⟨i0113, hi0113, _, hsz113, _⟩ := info_parts info5
                        have hroom113 : y477.length ≤ co108 := (Kd.R_reads' HO479.out).2.1
                        have hroomc113 : y481.length ≤ co108 := (by rw [← hlx113]; exact hroom113)
                        have hC113 : Kd.C (Kd.int .u8) _ (some ⟨go28, 0, none⟩) y481.length y481 := (Kd.R_reads' HO479.out).2.2
                        have hcut113 := cut_from (P := Try.prog) 25 5 .i64 Try.underlying25 hi0113 1 hsz113 (some ⟨go28, 0, none⟩) y477.length co108 17 (by omega) q113
                        have hr113 := Kd.C_drop (m := (17 : Int).toNat) (c := co108) hC113 (by omega) hroomc113
                        obtain ⟨A113, hA113⟩ : ∃ A1, A1 = (if co108 = (17 : Int).toNat then (some ⟨go28, 0, none⟩) else ((some ⟨go28, 0, none⟩) : Option Addr).map (·.add ((17 : Int).toNat * 1))) := ⟨_, rfl⟩
                        obtain ⟨c113, hc113⟩ : ∃ c1, c1 = co108 - (17 : Int).toNat := ⟨_, rfl⟩
                        have hy113 : y486.length = y477.length - (17 : Int).toNat := (by rw [Ny486.out, List.length_drop] <;> omega)
                        rw [show (y481).drop (17 : Int).toNat = y486 from Ny486.out.symm] at hr113
                        replace hr113 : Kd.C (Kd.int .u8) _ A113 y486.length y486 := (by rw [hA113]; exact hr113)
                        rw [← hy113, ← hA113, ← hc113] at hcut113
                        have HR489 := Aside0.mk hr113
                        have HC489 := Aside0.mk (show y486.length ≤ c113 from by rw [hy113, hc113]; exact Nat.sub_le_sub_right hroom113 _)
                        clear hr113 hC113 hroom113 hi0113 hsz113 hc113 hroomc113
                        have KY113 := Aside0.mk hy113
                        have KA113 := Aside0.mk hA113
                        clear hy113 hA113
                        have KE113 := Aside0.mk hlx113
                        have KL113 := Aside0.mk (show 17 ≤ y481.length from by omega)
                        clear hlx113
                        replace q113 := eq_true q113
                        refine start_ (n := 11) (S := fun w' => True) (ds := []) #[false, false, false, false, false, false, false, false, false, false, false] (by kernel_rfl) rfl rfl trivial (fun hHeld => ?_); refine with_tabW strakelaw05_OobTurned.tab11 strakelaw05_OobTurned.bits11 (fun HT_ HW_ => ?_)
                        generalize w110.drew = w111 at HO_8 HO479 BK464 BK465 HB HR485 HR489 hHeld ⊢
                        refine pure_ (i := 0) (N := some 63) (v := ?_) (a' := ?_) #[true, false, false, false, false, false, false, false, false, false, false] rfl rfl (any_of HT_.out (by kernel_rfl)) (fun _ _ _ h => h) (Or.inl ⟨by rfl, ?_⟩) ?_ ?_
                        rotate_left
                        · intro w'
                          go_simp
                          with_reducible rfl
                        rotate_left
                        · simp only [Act.put, List.setIfInBounds_toArray, List.set_cons_zero, List.set_cons_succ, i64_w, i32_w]
                          rfl
                        refine pure_ (i := 1) (N := some 64) (v := ?_) (a' := ?_) #[true, true, false, false, false, false, false, false, false, false, false] rfl rfl (any_of HT_.out (by kernel_rfl)) (fun _ _ _ h => h) (Or.inl ⟨by rfl, ?_⟩) ?_ ?_
                        rotate_left
                        · intro w'
                          go_simp
                          with_reducible rfl
                        rotate_left
                        · simp only [Act.put, List.setIfInBounds_toArray, List.set_cons_zero, List.set_cons_succ, i64_w, i32_w]
                          rfl
                        refine pure_ (i := 2) (N := some 65) (v := ?_) (a' := ?_) #[true, true, true, false, false, false, false, false, false, false, false] rfl rfl (any_of HT_.out (by kernel_rfl)) (fun _ _ _ h => h) (Or.inl ⟨by rfl, ?_⟩) ?_ ?_
                        rotate_left
                        · intro w'
                          go_simp
                          with_reducible rfl
                        rotate_left
                        · simp only [Act.put, List.setIfInBounds_toArray, List.set_cons_zero, List.set_cons_succ, i64_w, i32_w]
                          rfl
                        refine pure_ (i := 3) (N := some 66) (v := ?_) (a' := ?_) #[true, true, true, true, false, false, false, false, false, false, false] rfl rfl (any_of HT_.out (by kernel_rfl)) (fun _ _ _ h => h) (Or.inl ⟨by rfl, ?_⟩) ?_ ?_
                        rotate_left
                        · intro w'
                          go_simp
                          with_reducible rfl
                        rotate_left
                        · simp only [Act.put, List.setIfInBounds_toArray, List.set_cons_zero, List.set_cons_succ, i64_w, i32_w]
                          rfl
                        refine join_ (σ := Nat) 2 #[true, true, true, true, true, true, true, true, true, false, false] (fun s_ => [(67, .tuple #[.agg #[.int .i64 t490, .int .i64 t491, .int .i64 t492], .int .i64 t493]), (13, .pointer (some ⟨s_, 0, none⟩)), (62, .tuple #[.agg #[.int .i64 t490, .int .i64 t491, .int .i64 t492], .int .i64 t493]), (68, .agg #[.int .i64 t490, .int .i64 t491, .int .i64 t492]), (69, .int .i64 t493)]) (fun s_ w' => (Kd.R (Kd.int .u8) 5 w' w.heap.size (fun k_ => some k_ ≠ (.slice Ao101 t467.length co101 : Value).ownBlock) (.slice (some ⟨go28, 0, none⟩) y477.length co108) y481) ∧ (Kd.R (Kd.int .u8) 5 w' w.heap.size (fun k_ => some k_ ≠ (.slice (some ⟨go28, 0, none⟩) y477.length co108 : Value).ownBlock) (.slice Ao101 t467.length co101) t467) ∧ (w'.heap[gb464]? = some (.cells #[.int .i64 a0_0, .int .i64 a0_1, .int .i64 a0_2] 31 (0, 0))) ∧ (w'.heap[gb465]? = some (.cells #[.int .i64 a2_0, .int .i64 a2_1] 45 (0, 0))) ∧ (w'.heap[s_]? = some (.cells #[.int .i64 0, .int .i64 0, .int .i64 0] 31 (0, 0))) ∧ (w.heap.size ≤ s_) ∧ (w.heap.size ≤ s_) ∧ (gb464 ≠ s_) ∧ (s_ ≠ gb464) ∧ (gb465 ≠ s_) ∧ (s_ ≠ gb465) ∧ (Below w.heap.size w w')) ?_ ?_
                        rotate_left
                        · intro hCont
                          refine two_ (i := 4) (j := 8) (Ni := some 67) (Nj := some 13) #[true, true, true, true, true, false, false, false, false, false, false] #[true, true, true, true, false, false, false, false, true, false, false] rfl rfl rfl rfl (two_of HT_.out (by kernel_rfl)) (by decide) (by decide) (fun K hK => ?_) (fun K hK => ?_)
                          · skip
                            refine goes_ Try.func30 (by kernel_rfl) rfl #[.slice (some ⟨go28, 0, none⟩) y482.length co108, .slice A113 y486.length c113] (by rfl) rfl rfl (by (try simp only [List.map_toArray, List.map_cons, List.map_nil]); first | done | rfl | (simp only [List.length_drop, List.length_take]; rfl)) ?_
                            with_reducible refine (oob_Unpack.calls kj5 _ _ y482 _ _ y486 t490 t491 t492 t493 _ ?side1 ?side2 ?side3 ?side4 A31.out).mono ?_
                            (case side1 => repeat (first | exact (by repeat (first | (with_reducible exact HR485.out) | (with_reducible refine Kd.C_alloc ?_ _) | (with_reducible refine Kd.C_drewN ?_ _) | (with_reducible refine Kd.C_drew ?_) | exact HR485.out)) | (with_reducible refine Kd.C_alloc ?_ _) | (with_reducible refine Kd.C_drewN ?_ _) | (with_reducible refine Kd.C_drew ?_)))
                            (case side2 => exact HC485.out)
                            (case side3 => repeat (first | exact (by repeat (first | (with_reducible exact HR489.out) | (with_reducible refine Kd.C_alloc ?_ _) | (with_reducible refine Kd.C_drewN ?_ _) | (with_reducible refine Kd.C_drew ?_) | exact HR489.out)) | (with_reducible refine Kd.C_alloc ?_ _) | (with_reducible refine Kd.C_drewN ?_ _) | (with_reducible refine Kd.C_drew ?_)))
                            (case side4 => exact HC489.out)
                            rintro e w114 ⟨rfl, hb⟩
                            refine ⟨_, rfl, ?_⟩
                            have n0_ := Aside0.mk (Kd.R_below (by (with_reducible repeat (first | apply Kd.R_alloc | apply Kd.R_drewN | apply Kd.R_drew)); exact HO_8.out) hb)
                            have n1_ := Aside0.mk (Kd.R_below (by (with_reducible repeat (first | apply Kd.R_alloc | apply Kd.R_drewN | apply Kd.R_drew)); exact HO479.out) hb)
                            have n2_ := Aside0.mk (blk_below (g := gb464) (o := .cells #[.int .i64 a0_0, .int .i64 a0_1, .int .i64 a0_2] 31 (0, 0)) (by (with_reducible repeat (first | refine blk_drewN ?_ _ | refine blk_drew ?_ | refine blk_alloc ?_ _)); exact BK464.out) hb)
                            have n3_ := Aside0.mk (blk_below (g := gb465) (o := .cells #[.int .i64 a2_0, .int .i64 a2_1] 45 (0, 0)) (by (with_reducible repeat (first | refine blk_drewN ?_ _ | refine blk_drew ?_ | refine blk_alloc ?_ _)); exact BK465.out) hb)
                            have n4_ := Aside0.mk (Kd.C_below (by repeat (first | (with_reducible exact HR485.out) | (with_reducible refine Kd.C_alloc ?_ _) | (with_reducible refine Kd.C_drewN ?_ _) | (with_reducible refine Kd.C_drew ?_) | exact HR485.out)) hb)
                            have n5_ := Aside0.mk (Kd.C_below (by repeat (first | (with_reducible exact HR489.out) | (with_reducible refine Kd.C_alloc ?_ _) | (with_reducible refine Kd.C_drewN ?_ _) | (with_reducible refine Kd.C_drew ?_) | exact HR489.out)) hb)
                            have n6_ := Aside0.mk (below_step (by repeat (first | (with_reducible first | exact HB.out | apply below_alloc | apply pw_below_drewN | apply below_drew1 | refine below_set ?_ GE464.out | refine below_set ?_ GE465.out) | exact HB.out)) hb)
                            clear HO_8
                            clear HO479
                            clear BK464
                            clear BK465
                            clear HR485
                            clear HR489
                            clear HB
                            have HO_8 := n0_
                            have HO479 := n1_
                            have BK464 := n2_
                            have BK465 := n3_
                            have HR485 := n4_
                            have HR489 := n5_
                            have HB := n6_
                            clear n0_ n1_ n2_ n3_ n4_ n5_ n6_
                            (try clear hb)
                            (try clear hb2)
                            (try clear hk)
                            (try clear hi)
                            refine hK.out _ _ trivial (fun hHeld => ?_)
                            clear hK K
                            refine norm_ (a' := ?_) ?_ ?_
                            rotate_left
                            · show Act.put _ (some 67) _ = _
                              simp only [Act.put, List.setIfInBounds_toArray, List.set_cons_zero, List.set_cons_succ, i64_w, i32_w]
                              rfl
                            refine pure_ (i := 5) (N := some 62) (v := ?_) (a' := ?_) #[true, true, true, true, true, true, false, false, false, false, false] rfl rfl (any_of HT_.out (by kernel_rfl)) (fun _ _ _ h => h) (Or.inl ⟨by rfl, ?_⟩) ?_ ?_
                            rotate_left
                            · intro w'
                              go_simp
                              with_reducible rfl
                            rotate_left
                            · simp only [Act.put, List.setIfInBounds_toArray, List.set_cons_zero, List.set_cons_succ, i64_w, i32_w]
                              rfl
                            refine pure_ (i := 6) (N := some 68) (v := ?_) (a' := ?_) #[true, true, true, true, true, true, true, false, false, false, false] rfl rfl (any_of HT_.out (by kernel_rfl)) (fun _ _ _ h => h) (Or.inl ⟨by rfl, ?_⟩) ?_ ?_
                            rotate_left
                            · intro w'
                              go_simp
                              with_reducible rfl
                            rotate_left
                            · simp only [Act.put, List.setIfInBounds_toArray, List.set_cons_zero, List.set_cons_succ, i64_w, i32_w]
                              rfl
                            refine pure_ (i := 7) (N := some 69) (v := ?_) (a' := ?_) #[true, true, true, true, true, true, true, true, false, false, false] rfl rfl (any_of HT_.out (by kernel_rfl)) (fun _ _ _ h => h) (Or.inl ⟨by rfl, ?_⟩) ?_ ?_
                            rotate_left
                            · intro w'
                              go_simp
                              with_reducible rfl
                            rotate_left
                            · simp only [Act.put, List.setIfInBounds_toArray, List.set_cons_zero, List.set_cons_succ, i64_w, i32_w]
                              rfl
                            refine one_ (i := 8) (N := some 13) #[true, true, true, true, true, true, true, true, true, false, false] rfl rfl (one_of HT_.out (by kernel_rfl)) (by decide) (fun K hK => ?_)
                            refine box_step ?hg (N := 13) ?hd (cs := #[.int .i64 0, .int .i64 0, .int .i64 0]) (t := 31) ?hr ?_; (case hd => rfl); (case hg => rfl); (case hr => first | (go_simp; done) | (go_simp; rfl))
                            intro gb494 hg w115 hbox hb
                            have n0_ := Aside0.mk (Kd.R_below (by (with_reducible repeat (first | apply Kd.R_alloc | apply Kd.R_drewN | apply Kd.R_drew)); exact HO_8.out) hb)
                            have n1_ := Aside0.mk (Kd.R_below (by (with_reducible repeat (first | apply Kd.R_alloc | apply Kd.R_drewN | apply Kd.R_drew)); exact HO479.out) hb)
                            have n2_ := Aside0.mk (blk_below (g := gb464) (o := .cells #[.int .i64 a0_0, .int .i64 a0_1, .int .i64 a0_2] 31 (0, 0)) (by (with_reducible repeat (first | refine blk_drewN ?_ _ | refine blk_drew ?_ | refine blk_alloc ?_ _)); exact BK464.out) hb)
                            have n3_ := Aside0.mk (blk_below (g := gb465) (o := .cells #[.int .i64 a2_0, .int .i64 a2_1] 45 (0, 0)) (by (with_reducible repeat (first | refine blk_drewN ?_ _ | refine blk_drew ?_ | refine blk_alloc ?_ _)); exact BK465.out) hb)
                            have n4_ := Aside0.mk (Kd.C_below (by repeat (first | (with_reducible exact HR485.out) | (with_reducible refine Kd.C_alloc ?_ _) | (with_reducible refine Kd.C_drewN ?_ _) | (with_reducible refine Kd.C_drew ?_) | exact HR485.out)) hb)
                            have n5_ := Aside0.mk (Kd.C_below (by repeat (first | (with_reducible exact HR489.out) | (with_reducible refine Kd.C_alloc ?_ _) | (with_reducible refine Kd.C_drewN ?_ _) | (with_reducible refine Kd.C_drew ?_) | exact HR489.out)) hb)
                            have n6_ := Aside0.mk (below_step (by repeat (first | (with_reducible first | exact HB.out | apply below_alloc | apply pw_below_drewN | apply below_drew1 | refine below_set ?_ GE464.out | refine below_set ?_ GE465.out) | exact HB.out)) hb)
                            have n7_ := Aside0.mk (hbox)
                            have n8_ := Aside0.mk ((by rw [hg]; exact (below_size (by repeat (first | (with_reducible first | exact HB.out | apply below_alloc | apply pw_below_drewN | apply below_drew1 | refine below_set ?_ GE464.out | refine below_set ?_ GE465.out) | exact HB.out))) : w.heap.size ≤ gb494))
                            have n9_ := Aside0.mk ((by rw [hg]; exact (below_size (by repeat (first | (with_reducible first | exact HB.out | apply below_alloc | apply pw_below_drewN | apply below_drew1 | refine below_set ?_ GE464.out | refine below_set ?_ GE465.out) | exact HB.out))) : w.heap.size ≤ gb494))
                            have n10_ := Aside0.mk ((by rw [hg]; exact Nat.ne_of_lt (blk_lt (g := gb464) (o := .cells #[.int .i64 a0_0, .int .i64 a0_1, .int .i64 a0_2] 31 (0, 0)) (by (with_reducible repeat (first | refine blk_drewN ?_ _ | refine blk_drew ?_ | refine blk_alloc ?_ _)); exact BK464.out)) : gb464 ≠ gb494))
                            have n11_ := Aside0.mk ((by rw [hg]; exact Nat.ne_of_gt (blk_lt (g := gb464) (o := .cells #[.int .i64 a0_0, .int .i64 a0_1, .int .i64 a0_2] 31 (0, 0)) (by (with_reducible repeat (first | refine blk_drewN ?_ _ | refine blk_drew ?_ | refine blk_alloc ?_ _)); exact BK464.out)) : gb494 ≠ gb464))
                            have n12_ := Aside0.mk ((by rw [hg]; exact Nat.ne_of_lt (blk_lt (g := gb465) (o := .cells #[.int .i64 a2_0, .int .i64 a2_1] 45 (0, 0)) (by (with_reducible repeat (first | refine blk_drewN ?_ _ | refine blk_drew ?_ | refine blk_alloc ?_ _)); exact BK465.out)) : gb465 ≠ gb494))
                            have n13_ := Aside0.mk ((by rw [hg]; exact Nat.ne_of_gt (blk_lt (g := gb465) (o := .cells #[.int .i64 a2_0, .int .i64 a2_1] 45 (0, 0)) (by (with_reducible repeat (first | refine blk_drewN ?_ _ | refine blk_drew ?_ | refine blk_alloc ?_ _)); exact BK465.out)) : gb494 ≠ gb465))
                            clear HO_8
                            clear HO479
                            clear BK464
                            clear BK465
                            clear HR485
                            clear HR489
                            clear HB
                            have HO_8 := n0_
                            have HO479 := n1_
                            have BK464 := n2_
                            have BK465 := n3_
                            have HR485 := n4_
                            have HR489 := n5_
                            have HB := n6_
                            have BK494 := n7_
                            have GW494 := n8_
                            have GE494 := n9_
                            have NB464_494 := n10_
                            have NB494_464 := n11_
                            have NB465_494 := n12_
                            have NB494_465 := n13_
                            clear n0_ n1_ n2_ n3_ n4_ n5_ n6_ n7_ n8_ n9_ n10_ n11_ n12_ n13_
                            clear hb hbox hg
                            refine hK.out _ _ trivial (fun hHeld => ?_)
                            clear hK K
                            refine norm_ (a' := ?_) ?_ ?_
                            rotate_left
                            · show Act.put _ (some 13) _ = _
                              simp only [Act.put, List.setIfInBounds_toArray, List.set_cons_zero, List.set_cons_succ, i64_w, i32_w]
                              rfl
                            exact norm_ (by simp only [putAll, Act.put, List.setIfInBounds_toArray, List.set_cons_zero, List.set_cons_succ]) (hCont (gb494) _ ⟨(by (with_reducible repeat (first | apply Kd.R_alloc | apply Kd.R_drewN | apply Kd.R_drew)); exact HO479.out), (by (with_reducible repeat (first | apply Kd.R_alloc | apply Kd.R_drewN | apply Kd.R_drew)); exact Kd.R_mono HO_8.out (fun _ hk => hk.2)), (by (with_reducible repeat (first | refine blk_drewN ?_ _ | refine blk_drew ?_ | refine blk_alloc ?_ _)); exact BK464.out), (by (with_reducible repeat (first | refine blk_drewN ?_ _ | refine blk_drew ?_ | refine blk_alloc ?_ _)); exact BK465.out), (by (with_reducible repeat (first | refine blk_drewN ?_ _ | refine blk_drew ?_ | refine blk_alloc ?_ _)); exact BK494.out), GW494.out, GE494.out, NB464_494.out, NB494_464.out, NB465_494.out, NB494_465.out, (by repeat (first | (with_reducible first | exact HB.out | apply below_alloc | apply pw_below_drewN | apply below_drew1 | refine below_set ?_ GE464.out | refine below_set ?_ GE465.out | refine below_set ?_ GE494.out) | exact HB.out))⟩)
                          · skip
                            refine box_step ?hg (N := 13) ?hd (cs := #[.int .i64 0, .int .i64 0, .int .i64 0]) (t := 31) ?hr ?_; (case hd => rfl); (case hg => rfl); (case hr => first | (go_simp; done) | (go_simp; rfl))
                            intro gb494 hg w114 hbox hb
                            have n0_ := Aside0.mk (Kd.R_below (by (with_reducible repeat (first | apply Kd.R_alloc | apply Kd.R_drewN | apply Kd.R_drew)); exact HO_8.out) hb)
                            have n1_ := Aside0.mk (Kd.R_below (by (with_reducible repeat (first | apply Kd.R_alloc | apply Kd.R_drewN | apply Kd.R_drew)); exact HO479.out) hb)
                            have n2_ := Aside0.mk (blk_below (g := gb464) (o := .cells #[.int .i64 a0_0, .int .i64 a0_1, .int .i64 a0_2] 31 (0, 0)) (by (with_reducible repeat (first | refine blk_drewN ?_ _ | refine blk_drew ?_ | refine blk_alloc ?_ _)); exact BK464.out) hb)
                            have n3_ := Aside0.mk (blk_below (g := gb465) (o := .cells #[.int .i64 a2_0, .int .i64 a2_1] 45 (0, 0)) (by (with_reducible repeat (first | refine blk_drewN ?_ _ | refine blk_drew ?_ | refine blk_alloc ?_ _)); exact BK465.out) hb)
                            have n4_ := Aside0.mk (Kd.C_below (by repeat (first | (with_reducible exact HR485.out) | (with_reducible refine Kd.C_alloc ?_ _) | (with_reducible refine Kd.C_drewN ?_ _) | (with_reducible refine Kd.C_drew ?_) | exact HR485.out)) hb)
                            have n5_ := Aside0.mk (Kd.C_below (by repeat (first | (with_reducible exact HR489.out) | (with_reducible refine Kd.C_alloc ?_ _) | (with_reducible refine Kd.C_drewN ?_ _) | (with_reducible refine Kd.C_drew ?_) | exact HR489.out)) hb)
                            have n6_ := Aside0.mk (below_step (by repeat (first | (with_reducible first | exact HB.out | apply below_alloc | apply pw_below_drewN | apply below_drew1 | refine below_set ?_ GE464.out | refine below_set ?_ GE465.out) | exact HB.out)) hb)
                            have n7_ := Aside0.mk (hbox)
                            have n8_ := Aside0.mk ((by rw [hg]; exact (below_size (by repeat (first | (with_reducible first | exact HB.out | apply below_alloc | apply pw_below_drewN | apply below_drew1 | refine below_set ?_ GE464.out | refine below_set ?_ GE465.out) | exact HB.out))) : w.heap.size ≤ gb494))
                            have n9_ := Aside0.mk ((by rw [hg]; exact (below_size (by repeat (first | (with_reducible first | exact HB.out | apply below_alloc | apply pw_below_drewN | apply below_drew1 | refine below_set ?_ GE464.out | refine below_set ?_ GE465.out) | exact HB.out))) : w.heap.size ≤ gb494))
                            have n10_ := Aside0.mk ((by rw [hg]; exact Nat.ne_of_lt (blk_lt (g := gb464) (o := .cells #[.int .i64 a0_0, .int .i64 a0_1, .int .i64 a0_2] 31 (0, 0)) (by (with_reducible repeat (first | refine blk_drewN ?_ _ | refine blk_drew ?_ | refine blk_alloc ?_ _)); exact BK464.out)) : gb464 ≠ gb494))
                            have n11_ := Aside0.mk ((by rw [hg]; exact Nat.ne_of_gt (blk_lt (g := gb464) (o := .cells #[.int .i64 a0_0, .int .i64 a0_1, .int .i64 a0_2] 31 (0, 0)) (by (with_reducible repeat (first | refine blk_drewN ?_ _ | refine blk_drew ?_ | refine blk_alloc ?_ _)); exact BK464.out)) : gb494 ≠ gb464))
                            have n12_ := Aside0.mk ((by rw [hg]; exact Nat.ne_of_lt (blk_lt (g := gb465) (o := .cells #[.int .i64 a2_0, .int .i64 a2_1] 45 (0, 0)) (by (with_reducible repeat (first | refine blk_drewN ?_ _ | refine blk_drew ?_ | refine blk_alloc ?_ _)); exact BK465.out)) : gb465 ≠ gb494))
                            have n13_ := Aside0.mk ((by rw [hg]; exact Nat.ne_of_gt (blk_lt (g := gb465) (o := .cells #[.int .i64 a2_0, .int .i64 a2_1] 45 (0, 0)) (by (with_reducible repeat (first | refine blk_drewN ?_ _ | refine blk_drew ?_ | refine blk_alloc ?_ _)); exact BK465.out)) : gb494 ≠ gb465))
                            clear HO_8
                            clear HO479
                            clear BK464
                            clear BK465
                            clear HR485
                            clear HR489
                            clear HB
                            have HO_8 := n0_
                            have HO479 := n1_
                            have BK464 := n2_
                            have BK465 := n3_
                            have HR485 := n4_
                            have HR489 := n5_
                            have HB := n6_
                            have BK494 := n7_
                            have GW494 := n8_
                            have GE494 := n9_
                            have NB464_494 := n10_
                            have NB494_464 := n11_
                            have NB465_494 := n12_
                            have NB494_465 := n13_
                            clear n0_ n1_ n2_ n3_ n4_ n5_ n6_ n7_ n8_ n9_ n10_ n11_ n12_ n13_
                            clear hb hbox hg
                            refine hK.out _ _ trivial (fun hHeld => ?_)
                            clear hK K
                            refine norm_ (a' := ?_) ?_ ?_
                            rotate_left
                            · show Act.put _ (some 13) _ = _
                              simp only [Act.put, List.setIfInBounds_toArray, List.set_cons_zero, List.set_cons_succ, i64_w, i32_w]
                              rfl
                            refine one_ (i := 4) (N := some 67) #[true, true, true, true, true, false, false, false, true, false, false] rfl rfl (one_of HT_.out (by kernel_rfl)) (by decide) (fun K hK => ?_)
                            refine goes_ Try.func30 (by kernel_rfl) rfl #[.slice (some ⟨go28, 0, none⟩) y482.length co108, .slice A113 y486.length c113] (by rfl) rfl rfl (by (try simp only [List.map_toArray, List.map_cons, List.map_nil]); first | done | rfl | (simp only [List.length_drop, List.length_take]; rfl)) ?_
                            with_reducible refine (oob_Unpack.calls kj5 _ _ y482 _ _ y486 t490 t491 t492 t493 _ ?side1 ?side2 ?side3 ?side4 A31.out).mono ?_
                            (case side1 => repeat (first | exact (by repeat (first | (with_reducible exact HR485.out) | (with_reducible refine Kd.C_alloc ?_ _) | (with_reducible refine Kd.C_drewN ?_ _) | (with_reducible refine Kd.C_drew ?_) | exact HR485.out)) | (with_reducible refine Kd.C_alloc ?_ _) | (with_reducible refine Kd.C_drewN ?_ _) | (with_reducible refine Kd.C_drew ?_)))
                            (case side2 => exact HC485.out)
                            (case side3 => repeat (first | exact (by repeat (first | (with_reducible exact HR489.out) | (with_reducible refine Kd.C_alloc ?_ _) | (with_reducible refine Kd.C_drewN ?_ _) | (with_reducible refine Kd.C_drew ?_) | exact HR489.out)) | (with_reducible refine Kd.C_alloc ?_ _) | (with_reducible refine Kd.C_drewN ?_ _) | (with_reducible refine Kd.C_drew ?_)))
                            (case side4 => exact HC489.out)
                            rintro e w115 ⟨rfl, hb⟩
                            refine ⟨_, rfl, ?_⟩
                            have n0_ := Aside0.mk (Kd.R_below (by (with_reducible repeat (first | apply Kd.R_alloc | apply Kd.R_drewN | apply Kd.R_drew)); exact HO_8.out) hb)
                            have n1_ := Aside0.mk (Kd.R_below (by (with_reducible repeat (first | apply Kd.R_alloc | apply Kd.R_drewN | apply Kd.R_drew)); exact HO479.out) hb)
                            have n2_ := Aside0.mk (blk_below (g := gb464) (o := .cells #[.int .i64 a0_0, .int .i64 a0_1, .int .i64 a0_2] 31 (0, 0)) (by (with_reducible repeat (first | refine blk_drewN ?_ _ | refine blk_drew ?_ | refine blk_alloc ?_ _)); exact BK464.out) hb)
                            have n3_ := Aside0.mk (blk_below (g := gb465) (o := .cells #[.int .i64 a2_0, .int .i64 a2_1] 45 (0, 0)) (by (with_reducible repeat (first | refine blk_drewN ?_ _ | refine blk_drew ?_ | refine blk_alloc ?_ _)); exact BK465.out) hb)
                            have n4_ := Aside0.mk (Kd.C_below (by repeat (first | (with_reducible exact HR485.out) | (with_reducible refine Kd.C_alloc ?_ _) | (with_reducible refine Kd.C_drewN ?_ _) | (with_reducible refine Kd.C_drew ?_) | exact HR485.out)) hb)
                            have n5_ := Aside0.mk (Kd.C_below (by repeat (first | (with_reducible exact HR489.out) | (with_reducible refine Kd.C_alloc ?_ _) | (with_reducible refine Kd.C_drewN ?_ _) | (with_reducible refine Kd.C_drew ?_) | exact HR489.out)) hb)
                            have n6_ := Aside0.mk (blk_below (g := gb494) (o := .cells #[.int .i64 0, .int .i64 0, .int .i64 0] 31 (0, 0)) (by (with_reducible repeat (first | refine blk_drewN ?_ _ | refine blk_drew ?_ | refine blk_alloc ?_ _)); exact BK494.out) hb)
                            have n7_ := Aside0.mk (below_step (by repeat (first | (with_reducible first | exact HB.out | apply below_alloc | apply pw_below_drewN | apply below_drew1 | refine below_set ?_ GE464.out | refine below_set ?_ GE465.out | refine below_set ?_ GE494.out) | exact HB.out)) hb)
                            clear HO_8
                            clear HO479
                            clear BK464
                            clear BK465
                            clear HR485
                            clear HR489
                            clear BK494
                            clear HB
                            have HO_8 := n0_
                            have HO479 := n1_
                            have BK464 := n2_
                            have BK465 := n3_
                            have HR485 := n4_
                            have HR489 := n5_
                            have BK494 := n6_
                            have HB := n7_
                            clear n0_ n1_ n2_ n3_ n4_ n5_ n6_ n7_
                            (try clear hb)
                            (try clear hb2)
                            (try clear hk)
                            (try clear hi)
                            refine hK.out _ _ trivial (fun hHeld => ?_)
                            clear hK K
                            refine norm_ (a' := ?_) ?_ ?_
                            rotate_left
                            · show Act.put _ (some 67) _ = _
                              simp only [Act.put, List.setIfInBounds_toArray, List.set_cons_zero, List.set_cons_succ, i64_w, i32_w]
                              rfl
                            refine pure_ (i := 5) (N := some 62) (v := ?_) (a' := ?_) #[true, true, true, true, true, true, false, false, true, false, false] rfl rfl (any_of HT_.out (by kernel_rfl)) (fun _ _ _ h => h) (Or.inl ⟨by rfl, ?_⟩) ?_ ?_
                            rotate_left
                            · intro w'
                              go_simp
                              with_reducible rfl
                            rotate_left
                            · simp only [Act.put, List.setIfInBounds_toArray, List.set_cons_zero, List.set_cons_succ, i64_w, i32_w]
                              rfl
                            refine pure_ (i := 6) (N := some 68) (v := ?_) (a' := ?_) #[true, true, true, true, true, true, true, false, true, false, false] rfl rfl (any_of HT_.out (by kernel_rfl)) (fun _ _ _ h => h) (Or.inl ⟨by rfl, ?_⟩) ?_ ?_
                            rotate_left
                            · intro w'
                              go_simp
                              with_reducible rfl
                            rotate_left
                            · simp only [Act.put, List.setIfInBounds_toArray, List.set_cons_zero, List.set_cons_succ, i64_w, i32_w]
                              rfl
                            refine pure_ (i := 7) (N := some 69) (v := ?_) (a' := ?_) #[true, true, true, true, true, true, true, true, true, false, false] rfl rfl (any_of HT_.out (by kernel_rfl)) (fun _ _ _ h => h) (Or.inl ⟨by rfl, ?_⟩) ?_ ?_
                            rotate_left
                            · intro w'
                              go_simp
                              with_reducible rfl
                            rotate_left
                            · simp only [Act.put, List.setIfInBounds_toArray, List.set_cons_zero, List.set_cons_succ, i64_w, i32_w]
                              rfl
                            exact norm_ (by simp only [putAll, Act.put, List.setIfInBounds_toArray, List.set_cons_zero, List.set_cons_succ]) (hCont (gb494) _ ⟨(by (with_reducible repeat (first | apply Kd.R_alloc | apply Kd.R_drewN | apply Kd.R_drew)); exact HO479.out), (by (with_reducible repeat (first | apply Kd.R_alloc | apply Kd.R_drewN | apply Kd.R_drew)); exact Kd.R_mono HO_8.out (fun _ hk => hk.2)), (by (with_reducible repeat (first | refine blk_drewN ?_ _ | refine blk_drew ?_ | refine blk_alloc ?_ _)); exact BK464.out), (by (with_reducible repeat (first | refine blk_drewN ?_ _ | refine blk_drew ?_ | refine blk_alloc ?_ _)); exact BK465.out), (by (with_reducible repeat (first | refine blk_drewN ?_ _ | refine blk_drew ?_ | refine blk_alloc ?_ _)); exact BK494.out), GW494.out, GE494.out, NB464_494.out, NB494_464.out, NB465_494.out, NB494_465.out, (by repeat (first | (with_reducible first | exact HB.out | apply below_alloc | apply pw_below_drewN | apply below_drew1 | refine below_set ?_ GE464.out | refine below_set ?_ GE465.out | refine below_set ?_ GE494.out) | exact HB.out))⟩)
                        rintro gb494 w116 ⟨h0_, h1_, h2_, h3_, h4_, h5_, h6_, h7_, h8_, h9_, h10_, h11_⟩
                        have n0_ : Aside0 (Kd.R (Kd.int .u8) 5 w116 w.heap.size (fun k_ => some k_ ≠ (.slice Ao101 t467.length co101 : Value).ownBlock) (.slice (some ⟨go28, 0, none⟩) y477.length co108) y481) := ⟨h0_⟩
                        have n1_ : Aside0 (Kd.R (Kd.int .u8) 5 w116 w.heap.size (fun k_ => some k_ ≠ (.slice (some ⟨go28, 0, none⟩) y477.length co108 : Value).ownBlock) (.slice Ao101 t467.length co101) t467) := ⟨h1_⟩
                        have n2_ : Aside0 (w116.heap[gb464]? = some (.cells #[.int .i64 a0_0, .int .i64 a0_1, .int .i64 a0_2] 31 (0, 0))) := ⟨h2_⟩
                        have n3_ : Aside0 (w116.heap[gb465]? = some (.cells #[.int .i64 a2_0, .int .i64 a2_1] 45 (0, 0))) := ⟨h3_⟩
                        have n4_ : Aside0 (w116.heap[gb494]? = some (.cells #[.int .i64 0, .int .i64 0, .int .i64 0] 31 (0, 0))) := ⟨h4_⟩
                        have n5_ : Aside0 (w.heap.size ≤ gb494) := ⟨h5_⟩
                        have n6_ : Aside0 (w.heap.size ≤ gb494) := ⟨h6_⟩
                        have n7_ : Aside0 (gb464 ≠ gb494) := ⟨h7_⟩
                        have n8_ : Aside0 (gb494 ≠ gb464) := ⟨h8_⟩
                        have n9_ : Aside0 (gb465 ≠ gb494) := ⟨h9_⟩
                        have n10_ : Aside0 (gb494 ≠ gb465) := ⟨h10_⟩
                        have n11_ : Aside0 (Below w.heap.size w w116) := ⟨h11_⟩
                        clear HO_8
                        clear HO479
                        clear BK464
                        clear BK465
                        clear HB
                        clear h0_ h1_ h2_ h3_ h4_ h5_ h6_ h7_ h8_ h9_ h10_ h11_
                        have HO479 := n0_
                        have HO_8 := n1_
                        have BK464 := n2_
                        have BK465 := n3_
                        have BK494 := n4_
                        have GW494 := n5_
                        have GE494 := n6_
                        have NB464_494 := n7_
                        have NB494_464 := n8_
                        have NB465_494 := n9_
                        have NB494_465 := n10_
                        have HB := n11_
                        clear n0_ n1_ n2_ n3_ n4_ n5_ n6_ n7_ n8_ n9_ n10_ n11_
                        have hHeld := trivial
                        refine norm_ (a' := ?_) ?_ ?_
                        rotate_left
                        · simp only [putAll, Act.put, List.setIfInBounds_toArray, List.set_cons_zero, List.set_cons_succ]
                          rfl
                        refine one_ (i := 9) (N := none) #[true, true, true, true, true, true, true, true, true, true, false] rfl rfl (one_of HT_.out (by kernel_rfl)) (by decide) (fun K hK => ?_)
                        have hs117 : w116.cell? ⟨gb494, 0, none⟩ = some (.int .i64 0) := (blk_cell BK494.out 0).trans rfl
                        have hfs117 := blk_frozen BK494.out 0
                        have hns117_0 := NB464_494.out
                        have hns117_1 := NB465_494.out
                        have hms117_0 := NB494_464.out
                        have hms117_1 := NB494_465.out
                        have hs118 : w116.cell? ⟨gb494, 1, none⟩ = some (.int .i64 0) := (blk_cell BK494.out 1).trans rfl
                        have hfs118 := blk_frozen BK494.out 1
                        have hns118_0 := NB464_494.out
                        have hns118_1 := NB465_494.out
                        have hms118_0 := NB494_464.out
                        have hms118_1 := NB494_465.out
                        have hs119 : w116.cell? ⟨gb494, 2, none⟩ = some (.int .i64 0) := (blk_cell BK494.out 2).trans rfl
                        have hfs119 := blk_frozen BK494.out 2
                        have hns119_0 := NB464_494.out
                        have hns119_1 := NB465_494.out
                        have hms119_0 := NB494_464.out
                        have hms119_1 := NB494_465.out
                        refine skip_ (w1 := ?_) (by rfl) rfl ?_ ?_
                        rotate_left
                        · go_simp
                          rfl
                        refine hK.out _ _ trivial (fun hHeld => ?_)
                        clear hK K
                        refine pure_ (i := 10) (N := some 14) (v := ?_) (a' := ?_) #[true, true, true, true, true, true, true, true, true, true, true] rfl rfl (any_of HT_.out (by kernel_rfl)) (fun _ _ _ h => h) (Or.inl ⟨by rfl, ?_⟩) ?_ ?_
                        rotate_left
                        · intro w'
                          go_simp
                          with_reducible rfl
                        rotate_left
                        · simp only [Act.put, List.setIfInBounds_toArray, List.set_cons_zero, List.set_cons_succ, i64_w, i32_w]
                          rfl
                        refine done_ (done_of HT_.out (by kernel_rfl)) ?_
                        try go_wp2
                        go_ret
                        exact ⟨by first | rfl | (simp [errW_none, errW_some] <;> rfl) | (simp only [← hji25]; first | rfl | (simp [errW_none, errW_some] <;> rfl)) | (simp [*, errW_none, errW_some] <;> rfl), by repeat (first | (with_reducible first | exact HB.out | apply below_alloc | apply pw_below_drewN | apply below_drew1 | refine below_set ?_ GE464.out | refine below_set ?_ GE465.out | refine below_set ?_ GE494.out) | exact HB.out)⟩
                    · rw [if_neg c29] at H
                      exact absurd H (by simp)
                  · rw [if_neg c27] at H
                    exact absurd H (by simp)
                · rw [if_neg c26] at H
                  exact absurd H (by simp)
              · rw [if_neg c24] at H
                exact absurd H (by simp)
            · rw [if_neg c23] at H
              exact absurd H (by simp)
          · rw [if_neg c22] at H
            have c22b0 : ((l1.length : Int) == 16) = false := beq_eq_false_iff_ne.mpr c22
            have c22b1 : ((l1.length : Int) != 16) = true := bne_iff_ne.mpr c22
            obtain rfl := Option.some.inj H
            obtain ⟨Ao120, co120, eo120⟩ := Kd.R_slice HO_8.out
            subst eo120
            go_wp2
            go_ret
            exact ⟨by first | rfl | (simp [errW_none, errW_some] <;> rfl) | (simp [*, errW_none, errW_some] <;> rfl), by repeat (first | (with_reducible first | exact HB.out | apply below_alloc | apply pw_below_drewN | apply below_drew1 | refine below_set ?_ GE464.out | refine below_set ?_ GE465.out) | exact HB.out)⟩
        · rw [if_neg c21] at H
          have c21b0 : ((t467.length : Int) == 17) = false := beq_eq_false_iff_ne.mpr c21
          have c21b1 : ((t467.length : Int) != 17) = true := bne_iff_ne.mpr c21
          obtain rfl := Option.some.inj H
          obtain ⟨Ao121, co121, eo121⟩ := Kd.R_slice HO_8.out
          subst eo121
          go_wp2
          go_ret
          exact ⟨by first | rfl | (simp [errW_none, errW_some] <;> rfl) | (simp [*, errW_none, errW_some] <;> rfl), by repeat (first | (with_reducible first | exact HB.out | apply below_alloc | apply pw_below_drewN | apply below_drew1 | refine below_set ?_ GE464.out | refine below_set ?_ GE465.out) | exact HB.out)⟩

/-- THE ONE PURE STATEMENT of strakelaw05_OobTurned: yours. -/
def strakelaw05_OobTurned.Pure : Prop := ∀ (a0_0 : Int) (a0_1 : Int) (a0_2 : Int) (l1 : List Int) (a2_0 : Int) (a2_1 : Int), (Lit.int .i64 a0_0).wf = true → (Lit.int .i64 a0_1).wf = true → (Lit.int .i64 a0_2).wf = true → l1.length ≤ maxLen → l1.length * 1 ≤ 140737488351232 → (∀ x ∈ l1, (Lit.int .u8 x).wf = true) → (Lit.int .i64 a2_0).wf = true → (Lit.int .i64 a2_1).wf = true → ∃ k, strakelaw05_OobTurned.f k a0_0 a0_1 a0_2 l1 a2_0 a2_1 = some true
theorem strakelaw05_OobTurned.walk (P : strakelaw05_OobTurned.Pure) (a0_0 : Int) (a0_1 : Int) (a0_2 : Int) (a1 : Option Addr) (len1 cap1 : Nat) (z1 : List Int) (a2_0 : Int) (a2_1 : Int) (w : World) (w0_0 : (Lit.int .i64 a0_0).wf = true) (w0_1 : (Lit.int .i64 a0_1).wf = true) (w0_2 : (Lit.int .i64 a0_2).wf = true) (w1 : (a1 = none ∧ len1 = 0 ∧ cap1 = 0 ∧ z1 = []) ∨ ∃ x, a1 = some x ∧ len1 ≤ cap1 ∧ cap1 ≤ maxLen ∧ z1.length = cap1 ∧ (∀ i, i < z1.length → w.cell? (x.add i) = some (.int .u8 (z1.getD i 0))) ∧ ∀ n ∈ z1, (Lit.int .u8 n).wf = true) (y1 : len1 * 1 ≤ 140737488351232) (w2_0 : (Lit.int .i64 a2_0).wf = true) (w2_1 : (Lit.int .i64 a2_1).wf = true) :
    Calls Try.prog 13 #[.agg #[.int .i64 a0_0, .int .i64 a0_1, .int .i64 a0_2], .slice a1 len1 cap1, .agg #[.int .i64 a2_0, .int .i64 a2_1]] w fun e w' => e = .returned (.bool true) ∧ Below w.heap.size w w' := by
  obtain ⟨l1, rfl, hr1, hm1, hw1, hc1⟩ := ReadsInt.ofRowC w1
  obtain ⟨k, h⟩ := P a0_0 a0_1 a0_2 l1 a2_0 a2_1 w0_0 w0_1 w0_2 hm1 y1 hw1 w2_0 w2_1
  refine (strakelaw05_OobTurned.calls k a0_0 a0_1 a0_2 _ _ l1 a2_0 a2_1 true w (Kd.C_of_reads (d := (0 : Int)) (h1 := fun _ => rfl) hr1) hc1 h).mono ?_
  rintro e w' ⟨rfl, hd⟩
  exact ⟨rfl, hd⟩

end Go.Proofs.Ytjjohdeknahkmaa.X
