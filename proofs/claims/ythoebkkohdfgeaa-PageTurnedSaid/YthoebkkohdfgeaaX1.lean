-- laid by wip/tools/xprint.py (our own changes over the printer)
import Derived.Test.YthoebkkohdfgeaaX0
import Derived.Laws.EntriesVeiled
import Derived.Laws.CopyOwn
import Derived.Deep.RegionWith
import Derived.Deep.RegionLaw
namespace Go.Proofs.Ythoebkkohdfgeaa.X
open Go.RowKit Go.Proofs.YthoebkkohdfgeaaW.PrintWords Go.Proofs.YthoebkkohdfgeaaW.PrintLast Go.Proofs.YthoebkkohdfgeaaW.PrintMore
attribute [local go_sem] max2_int min2_int max_two min_two max_three min_three max_four min_four   -- for this text's walks alone
set_option linter.unusedVariables false
set_option linter.unusedSimpArgs false

theorem eqA40 (d : Nat) (w : World) (x0 y0 : Int) (x1 y1 : Int) (x2 y2 : Int) :
  (Op.equalIn (d + 2) 40 (.agg #[.int .i64 x0,.int .i64 x1,.int .i64 x2]) (.agg #[.int .i64 y0,.int .i64 y1,.int .i64 y2])).run Try.prog w = .ok (x0 == y0 && (x1 == y1 && (x2 == y2))) w := by
 refine eqA_of Try.underlying40 (by kernel_rfl) ?_
 refine eqf_cons (by rfl) (by go_simp; rfl) (by go_simp; rfl) (by go_simp) ?_
 refine eqf_cons (by rfl) (by go_simp; rfl) (by go_simp; rfl) (by go_simp) ?_
 exact eqf_last (by rfl) (by go_simp; rfl) (by go_simp; rfl) (by go_simp)

/-! ### page_sector: function 21 -/
def page_sector.f (a0_0 : Int) (a0_1 : Int) (a0_2 : Int) (l0_3 : List Int) (a0_4 : Int) : Option (List Int) := if a0_0 = 2 then (if 16 ≤ 281474976710656 then (some (List.replicate 16 0)) else (none)) else ((some (([] : List Int) : List Int)).bind fun y105 => (if y105.length + l0_3.length < 140737488355328 then (some (y105 ++ l0_3)) else (none)))
set_option maxHeartbeats 8000000 in
set_option maxRecDepth 100000 in
theorem page_sector.calls (a0_0 : Int) (a0_1 : Int) (a0_2 : Int) (A0_3 : Option Addr) (c0_3 : Nat) (l0_3 : List Int) (a0_4 : Int) (r : List Int) (w : World) (hr0_3 : Kd.C (Kd.int .u8) w A0_3 l0_3.length l0_3) (hc0_3 : l0_3.length ≤ c0_3) (h : page_sector.f a0_0 a0_1 a0_2 l0_3 a0_4 = some r) :
  Calls Try.prog 21 #[.agg #[.int .i64 a0_0,.int .i64 a0_1,.int .i64 a0_2,.slice A0_3 l0_3.length c0_3,.int .i64 a0_4]] w fun e w' => ∃ v0_ : Value,e = .returned (v0_) ∧ Kd.R (Kd.int .u8) 5 w' w.heap.size (fun _ => True) v0_ r ∧ Below w.heap.size w w' := by
 have hu38 := Try.underlying38
 have HR0_3 := Aside0.mk hr0_3
 have HC0_3 := Aside0.mk hc0_3
 clear hr0_3 hc0_3
 have HB := Aside0.mk (Below.refl w.heap.size w)
 have H : (if a0_0 = 2 then (if 16 ≤ 281474976710656 then (some (List.replicate 16 0)) else (none)) else ((some (([] : List Int) : List Int)).bind fun y105 => (if y105.length + l0_3.length < 140737488355328 then (some (y105 ++ l0_3)) else (none)))) = some r := h
 clear h
 by_cases c2 : a0_0 = 2
 ·rw [if_pos c2] at H
  have c2b0 : (a0_0 == 2) = true := beq_iff_eq.mpr c2
  have c2b1 : (a0_0 != 2) = false := bne_eq_false_iff_eq.mpr c2
  clear c2
  by_cases c3 : 16 ≤ 281474976710656
  ·rw [if_pos c3] at H
   have c3b0 := eq_true c3
   have c3b1 : decide (16 ≤ 281474976710656) = true := decide_eq_true c3
   clear c3
   obtain ⟨y102, hy102⟩ : ∃ y_ : List Int, y_ = (List.replicate 16 0) := ⟨_, rfl⟩
   replace H : (some y102) = some r := by first|(rw [hy102];with_reducible exact H)|(have H2_ := (Option.bind_some _ _).symm.trans H;rw [hy102];with_reducible exact H2_)|(have H2_ := (Option.bind_some _ _).symm.trans H;with_reducible exact H2_)|with_reducible exact H|(rw [hy102];exact H)|exact H
   have Ny102 := Aside0.mk hy102
   clear hy102
   obtain rfl := Option.some.inj H
   go_enter Try.func21, Try.ntmps21
   go_wp2_with (first|((with_reducible refine gate_dst (N := 1) rfl ?_);refine box_event ?hg (N := 1) ?hd (cs := #[.int .i64 a0_0,.int .i64 a0_1,.int .i64 a0_2,.slice A0_3 l0_3.length c0_3,.int .i64 a0_4]) (t := 38) ?hr ?_;(case hd => rfl);(case hg => rfl);(case hr => first|(go_simp;done)|(go_simp;rfl));intro gb101 hg w4 hbox hb;have n0_ := Aside0.mk (below_step (by repeat (first|(with_reducible first|exact HB.out|apply below_alloc|apply pw_below_drewN|apply below_drew1)|exact HB.out)) hb);have n1_ := Aside0.mk (hbox);have n2_ := Aside0.mk ((by rw [hg];exact (below_size (by repeat (first|(with_reducible first|exact HB.out|apply below_alloc|apply pw_below_drewN|apply below_drew1)|exact HB.out))) : w.heap.size ≤ gb101));have n3_ := Aside0.mk ((by rw [hg];exact (below_size (by repeat (first|(with_reducible first|exact HB.out|apply below_alloc|apply pw_below_drewN|apply below_drew1)|exact HB.out))) : w.heap.size ≤ gb101));clear HB;have HB := n0_;have BK101 := n1_;have GW101 := n2_;have GE101 := n3_;clear n0_ n1_ n2_ n3_;clear hb hbox hg;have hcz5_0 : w4.cell? ⟨gb101,0,none⟩ = some (.int .i64 a0_0) := (blk_cell BK101.out 0).trans rfl;have hcz5_1 : w4.cell? ⟨gb101,1,none⟩ = some (.int .i64 a0_1) := (blk_cell BK101.out 1).trans rfl;have hcz5_2 : w4.cell? ⟨gb101,2,none⟩ = some (.int .i64 a0_2) := (blk_cell BK101.out 2).trans rfl;have hcz5_3 : w4.cell? ⟨gb101,3,none⟩ = some (.slice A0_3 l0_3.length c0_3) := (blk_cell BK101.out 3).trans rfl;have hcz5_4 : w4.cell? ⟨gb101,4,none⟩ = some (.int .i64 a0_4) := (blk_cell BK101.out 4).trans rfl;have hfz5_0 := blk_frozen BK101.out 0;have hfz5_1 := blk_frozen BK101.out 1;have hfz5_2 := blk_frozen BK101.out 2;have hfz5_3 := blk_frozen BK101.out 3;have hfz5_4 := blk_frozen BK101.out 4)|((with_reducible refine gate_dst (N := 6) rfl ?_);refine Kd.R_make (Kd.int .u8) _ 5 rfl (N := 6) rfl 36 _ _ rfl 16 rfl rfl Try.underlying36 (.int .u8 0) 1 info5 rfl (by decide) (by omega) 0 (ok := fun _ => True) (okp := fun _ => True) rfl (fun _ hk => hk) trivial (by omega) (by omega) (Below.refl _ _) (Nat.le_refl _) ?_;intro v103 w6 ho7 hb hg_ hnew_;clear hg_ hnew_;(first|rw [← Ny102.out] at ho7|(simp only [Int.reduceToNat] at ho7;rw [← Ny102.out] at ho7));have n0_ := Aside0.mk (Kd.R_lower ho7 (below_size (by repeat (first|(with_reducible first|exact HB.out|apply below_alloc|apply pw_below_drewN|apply below_drew1|refine below_set ?_ GE101.out)|exact HB.out))));have n1_ := Aside0.mk (blk_below (g := gb101) (o := .cells #[.int .i64 a0_0,.int .i64 a0_1,.int .i64 a0_2,.slice A0_3 l0_3.length c0_3,.int .i64 a0_4] 38 (0,0)) (by (with_reducible repeat (first|refine blk_drewN ?_ _|refine blk_drew ?_|refine blk_alloc ?_ _));exact BK101.out) hb);have n2_ := Aside0.mk (below_step (by repeat (first|(with_reducible first|exact HB.out|apply below_alloc|apply pw_below_drewN|apply below_drew1|refine below_set ?_ GE101.out)|exact HB.out)) hb);clear BK101;clear HB;have HO104 := n0_;have BK101 := n1_;have HB := n2_;clear n0_ n1_ n2_;clear hb ho7))
   go_ret
   exact ⟨_,by first|rfl|(simp [errW_none,errW_some] <;> rfl)|(simp [*,errW_none,errW_some] <;> rfl),by (with_reducible repeat (first|apply Kd.R_alloc|apply Kd.R_drewN|apply Kd.R_drew));exact HO104.out,by repeat (first|(with_reducible first|exact HB.out|apply below_alloc|apply pw_below_drewN|apply below_drew1|refine below_set ?_ GE101.out)|exact HB.out)⟩
  ·rw [if_neg c3] at H
   exact absurd H (by simp)
 ·rw [if_neg c2] at H
  have c2b0 : (a0_0 == 2) = false := beq_eq_false_iff_ne.mpr c2
  have c2b1 : (a0_0 != 2) = true := bne_iff_ne.mpr c2
  obtain ⟨y105, hy105⟩ : ∃ y_ : List Int, y_ = (([] : List Int)) := ⟨_, rfl⟩
  replace H : (if y105.length + l0_3.length < 140737488355328 then (some (y105 ++ l0_3)) else (none)) = some r := by first|(rw [hy105];with_reducible exact H)|(have H2_ := (Option.bind_some _ _).symm.trans H;rw [hy105];with_reducible exact H2_)|(have H2_ := (Option.bind_some _ _).symm.trans H;with_reducible exact H2_)|with_reducible exact H|(rw [hy105];exact H)|exact H
  have Ny105 := Aside0.mk hy105
  clear hy105
  by_cases c8 : y105.length + l0_3.length < 140737488355328
  ·rw [if_pos c8] at H
   have LMc8 := Aside0.mk c8
   clear c8
   obtain ⟨y108, hy108⟩ : ∃ y_ : List Int, y_ = (y105 ++ l0_3) := ⟨_, rfl⟩
   replace H : (some y108) = some r := by first|(rw [hy108];with_reducible exact H)|(have H2_ := (Option.bind_some _ _).symm.trans H;rw [hy108];with_reducible exact H2_)|(have H2_ := (Option.bind_some _ _).symm.trans H;with_reducible exact H2_)|with_reducible exact H|(rw [hy108];exact H)|exact H
   have Ny108 := Aside0.mk hy108
   clear hy108
   obtain rfl := Option.some.inj H
   go_enter Try.func21, Try.ntmps21
   go_wp2_with (first|((with_reducible refine gate_dst (N := 1) rfl ?_);refine box_event ?hg (N := 1) ?hd (cs := #[.int .i64 a0_0,.int .i64 a0_1,.int .i64 a0_2,.slice A0_3 l0_3.length c0_3,.int .i64 a0_4]) (t := 38) ?hr ?_;(case hd => rfl);(case hg => rfl);(case hr => first|(go_simp;done)|(go_simp;rfl));intro gb101 hg w9 hbox hb;have n0_ := Aside0.mk (below_step (by repeat (first|(with_reducible first|exact HB.out|apply below_alloc|apply pw_below_drewN|apply below_drew1)|exact HB.out)) hb);have n1_ := Aside0.mk (hbox);have n2_ := Aside0.mk ((by rw [hg];exact (below_size (by repeat (first|(with_reducible first|exact HB.out|apply below_alloc|apply pw_below_drewN|apply below_drew1)|exact HB.out))) : w.heap.size ≤ gb101));have n3_ := Aside0.mk ((by rw [hg];exact (below_size (by repeat (first|(with_reducible first|exact HB.out|apply below_alloc|apply pw_below_drewN|apply below_drew1)|exact HB.out))) : w.heap.size ≤ gb101));clear HB;have HB := n0_;have BK101 := n1_;have GW101 := n2_;have GE101 := n3_;clear n0_ n1_ n2_ n3_;clear hb hbox hg;have hcz10_0 : w9.cell? ⟨gb101,0,none⟩ = some (.int .i64 a0_0) := (blk_cell BK101.out 0).trans rfl;have hcz10_1 : w9.cell? ⟨gb101,1,none⟩ = some (.int .i64 a0_1) := (blk_cell BK101.out 1).trans rfl;have hcz10_2 : w9.cell? ⟨gb101,2,none⟩ = some (.int .i64 a0_2) := (blk_cell BK101.out 2).trans rfl;have hcz10_3 : w9.cell? ⟨gb101,3,none⟩ = some (.slice A0_3 l0_3.length c0_3) := (blk_cell BK101.out 3).trans rfl;have hcz10_4 : w9.cell? ⟨gb101,4,none⟩ = some (.int .i64 a0_4) := (blk_cell BK101.out 4).trans rfl;have hfz10_0 := blk_frozen BK101.out 0;have hfz10_1 := blk_frozen BK101.out 1;have hfz10_2 := blk_frozen BK101.out 2;have hfz10_3 := blk_frozen BK101.out 3;have hfz10_4 := blk_frozen BK101.out 4)|((with_reducible refine gate_dst (N := 7) rfl ?_);refine Kd.R_lit (Kd.int .u8) _ 5 ?hg (N := 7) ?hd (xs := ([] : List Int)) (inner := []) (ok := fun _ => True) (okp := fun _ => True) ?hr ?hp (fun _ hk => hk) trivial (Below.refl _ _) (Nat.le_refl _) (by simp) ?_;(case hd => rfl);(case hg => rfl);(case hr => first|(go_simp;done)|(go_simp;rfl));(case hp => exact (Reps.none _ _));intro v106 w11 ho12 hb hg_ hnew_;clear hg_ hnew_;(first|rw [← Ny105.out] at ho12|(simp only [Int.reduceToNat] at ho12;rw [← Ny105.out] at ho12));have n0_ := Aside0.mk (Kd.R_lower ho12 (below_size (by repeat (first|(with_reducible first|exact HB.out|apply below_alloc|apply pw_below_drewN|apply below_drew1|refine below_set ?_ GE101.out)|exact HB.out))));have n1_ := Aside0.mk (blk_below (g := gb101) (o := .cells #[.int .i64 a0_0,.int .i64 a0_1,.int .i64 a0_2,.slice A0_3 l0_3.length c0_3,.int .i64 a0_4] 38 (0,0)) (by (with_reducible repeat (first|refine blk_drewN ?_ _|refine blk_drew ?_|refine blk_alloc ?_ _));exact BK101.out) hb);have n2_ := Aside0.mk (below_step (by repeat (first|(with_reducible first|exact HB.out|apply below_alloc|apply pw_below_drewN|apply below_drew1|refine below_set ?_ GE101.out)|exact HB.out)) hb);clear BK101;clear HB;have HO107 := n0_;have BK101 := n1_;have HB := n2_;clear n0_ n1_ n2_;clear hb ho12;have hcz13_0 : w11.cell? ⟨gb101,0,none⟩ = some (.int .i64 a0_0) := (blk_cell BK101.out 0).trans rfl;have hcz13_1 : w11.cell? ⟨gb101,1,none⟩ = some (.int .i64 a0_1) := (blk_cell BK101.out 1).trans rfl;have hcz13_2 : w11.cell? ⟨gb101,2,none⟩ = some (.int .i64 a0_2) := (blk_cell BK101.out 2).trans rfl;have hcz13_3 : w11.cell? ⟨gb101,3,none⟩ = some (.slice A0_3 l0_3.length c0_3) := (blk_cell BK101.out 3).trans rfl;have hcz13_4 : w11.cell? ⟨gb101,4,none⟩ = some (.int .i64 a0_4) := (blk_cell BK101.out 4).trans rfl;have hfz13_0 := blk_frozen BK101.out 0;have hfz13_1 := blk_frozen BK101.out 1;have hfz13_2 := blk_frozen BK101.out 2;have hfz13_3 := blk_frozen BK101.out 3;have hfz13_4 := blk_frozen BK101.out 4)|((with_reducible refine gate_builtin (b := .append) (xs := #[.tmp 7,.tmp 9]) rfl ?_);at_builtin;refine Kd.R_append_rows (Kd.int .u8) (w0 := w) w.heap.size rfl (.tmp 7) (.tmp 9) 36 5 (.int .u8 0) 1 rfl Try.underlying36 info5 rfl (by decide) (by omega) v106 y105 l0_3 _ _ _ (fun _ => True) (fun _ => False) rfl rfl ?aO ?aR (fun _ _ h => h) (fun _ h => h.elim) ?aF ?aB ?aS ?aL ?_;(case aR => repeat (first|exact (Kd.C_below HR0_3.out HB.out)|(with_reducible refine Kd.C_alloc ?_ _)|(with_reducible refine Kd.C_drewN ?_ _)|(with_reducible refine Kd.C_drew ?_)));(case aB => exact (by repeat (first|(with_reducible first|exact HB.out|apply below_alloc|apply pw_below_drewN|apply below_drew1|refine below_set ?_ GE101.out)|exact HB.out)));(case aF => exact (fun _ _ => trivial));(case aO => exact (by (with_reducible repeat (first|apply Kd.R_alloc|apply Kd.R_drewN|apply Kd.R_drew));exact HO107.out));(case aS => exact (below_size (by repeat (first|(with_reducible first|exact HB.out|apply below_alloc|apply pw_below_drewN|apply below_drew1|refine below_set ?_ GE101.out)|exact HB.out))));(case aL => have := LMc8.out;omega);intro v109 w14 ho hb hg hat;rw [← Ny108.out] at ho;have n0_ := Aside0.mk (blk_grown (g := gb101) (o := .cells #[.int .i64 a0_0,.int .i64 a0_1,.int .i64 a0_2,.slice A0_3 l0_3.length c0_3,.int .i64 a0_4] 38 (0,0)) (by (with_reducible repeat (first|refine blk_drewN ?_ _|refine blk_drew ?_|refine blk_alloc ?_ _));exact BK101.out) hg (Kd.R_ne HO107.out BK101.out (by decide)));have n1_ := Aside0.mk (hb);have n2_ := Aside0.mk (ho);clear BK101;clear HB;clear HO107;have BK101 := n0_;have HB := n1_;have HO110 := n2_;clear n0_ n1_ n2_;clear ho hb hg hat))
   go_ret
   exact ⟨_,by first|rfl|(simp [errW_none,errW_some] <;> rfl)|(simp [*,errW_none,errW_some] <;> rfl),by (with_reducible repeat (first|apply Kd.R_alloc|apply Kd.R_drewN|apply Kd.R_drew));exact HO110.out,by repeat (first|(with_reducible first|exact HB.out|apply below_alloc|apply pw_below_drewN|apply below_drew1|refine below_set ?_ GE101.out)|exact HB.out)⟩
  ·rw [if_neg c8] at H
   exact absurd H (by simp)


/-! ### oob_Right: function 30 -/
def oob_Right.f (a0_0 : Int) (a0_1 : Int) (a0_2 : Int) : Option (Bool) := if a0_0 ≥ 1 then (if a0_0 ≤ 4 then (if a0_1 ≥ 0 then (if a0_1 ≤ 2147483647 then (if a0_2 ≥ 0 then (some (decide (a0_2 ≤ 1125899906842624))) else (some false)) else (some false)) else (some false)) else (some false)) else (some false)
set_option maxHeartbeats 8000000 in
set_option maxRecDepth 100000 in
theorem oob_Right.calls (a0_0 : Int) (a0_1 : Int) (a0_2 : Int) (r : Bool) (w : World) (h : oob_Right.f a0_0 a0_1 a0_2 = some r) :
  Calls Try.prog 30 #[.agg #[.int .i64 a0_0,.int .i64 a0_1,.int .i64 a0_2]] w fun e w' => e = .returned (.bool r) ∧ Below w.heap.size w w' := by
 have hu40 := Try.underlying40
 have HB := Aside0.mk (Below.refl w.heap.size w)
 have H : (if a0_0 ≥ 1 then (if a0_0 ≤ 4 then (if a0_1 ≥ 0 then (if a0_1 ≤ 2147483647 then (if a0_2 ≥ 0 then (some (decide (a0_2 ≤ 1125899906842624))) else (some false)) else (some false)) else (some false)) else (some false)) else (some false)) = some r := h
 clear h
 by_cases c2 : a0_0 ≥ 1
 ·rw [if_pos c2] at H
  have c2b0 : decide (1 ≤ a0_0) = true := decide_eq_true c2
  clear c2
  by_cases c3 : a0_0 ≤ 4
  ·rw [if_pos c3] at H
   have c3b0 : decide (a0_0 ≤ 4) = true := decide_eq_true c3
   clear c3
   by_cases c4 : a0_1 ≥ 0
   ·rw [if_pos c4] at H
    have c4b0 : decide (0 ≤ a0_1) = true := decide_eq_true c4
    clear c4
    by_cases c5 : a0_1 ≤ 2147483647
    ·rw [if_pos c5] at H
     have c5b0 : decide (a0_1 ≤ 2147483647) = true := decide_eq_true c5
     clear c5
     by_cases c6 : a0_2 ≥ 0
     ·rw [if_pos c6] at H
      have c6b0 : decide (0 ≤ a0_2) = true := decide_eq_true c6
      clear c6
      obtain rfl := Option.some.inj H
      go_enter Try.func30, Try.ntmps30
      go_wp2_with (first|((with_reducible refine gate_dst (N := 1) rfl ?_);refine box_event ?hg (N := 1) ?hd (cs := #[.int .i64 a0_0,.int .i64 a0_1,.int .i64 a0_2]) (t := 40) ?hr ?_;(case hd => rfl);(case hg => rfl);(case hr => first|(go_simp;done)|(go_simp;rfl));intro gb111 hg w7 hbox hb;have n0_ := Aside0.mk (below_step (by repeat (first|(with_reducible first|exact HB.out|apply below_alloc|apply pw_below_drewN|apply below_drew1)|exact HB.out)) hb);have n1_ := Aside0.mk (hbox);have n2_ := Aside0.mk ((by rw [hg];exact (below_size (by repeat (first|(with_reducible first|exact HB.out|apply below_alloc|apply pw_below_drewN|apply below_drew1)|exact HB.out))) : w.heap.size ≤ gb111));have n3_ := Aside0.mk ((by rw [hg];exact (below_size (by repeat (first|(with_reducible first|exact HB.out|apply below_alloc|apply pw_below_drewN|apply below_drew1)|exact HB.out))) : w.heap.size ≤ gb111));clear HB;have HB := n0_;have BK111 := n1_;have GW111 := n2_;have GE111 := n3_;clear n0_ n1_ n2_ n3_;clear hb hbox hg;have hcz8_0 : w7.cell? ⟨gb111,0,none⟩ = some (.int .i64 a0_0) := (blk_cell BK111.out 0).trans rfl;have hcz8_1 : w7.cell? ⟨gb111,1,none⟩ = some (.int .i64 a0_1) := (blk_cell BK111.out 1).trans rfl;have hcz8_2 : w7.cell? ⟨gb111,2,none⟩ = some (.int .i64 a0_2) := (blk_cell BK111.out 2).trans rfl;have hfz8_0 := blk_frozen BK111.out 0;have hfz8_1 := blk_frozen BK111.out 1;have hfz8_2 := blk_frozen BK111.out 2))
      go_ret
      exact ⟨by first|rfl|(simp [errW_none,errW_some] <;> rfl)|(simp [*,errW_none,errW_some] <;> rfl),by repeat (first|(with_reducible first|exact HB.out|apply below_alloc|apply pw_below_drewN|apply below_drew1|refine below_set ?_ GE111.out)|exact HB.out)⟩
     ·rw [if_neg c6] at H
      have c6b0 : decide (0 ≤ a0_2) = false := decide_eq_false c6
      clear c6
      obtain rfl := Option.some.inj H
      go_enter Try.func30, Try.ntmps30
      go_wp2_with (first|((with_reducible refine gate_dst (N := 1) rfl ?_);refine box_event ?hg (N := 1) ?hd (cs := #[.int .i64 a0_0,.int .i64 a0_1,.int .i64 a0_2]) (t := 40) ?hr ?_;(case hd => rfl);(case hg => rfl);(case hr => first|(go_simp;done)|(go_simp;rfl));intro gb111 hg w9 hbox hb;have n0_ := Aside0.mk (below_step (by repeat (first|(with_reducible first|exact HB.out|apply below_alloc|apply pw_below_drewN|apply below_drew1)|exact HB.out)) hb);have n1_ := Aside0.mk (hbox);have n2_ := Aside0.mk ((by rw [hg];exact (below_size (by repeat (first|(with_reducible first|exact HB.out|apply below_alloc|apply pw_below_drewN|apply below_drew1)|exact HB.out))) : w.heap.size ≤ gb111));have n3_ := Aside0.mk ((by rw [hg];exact (below_size (by repeat (first|(with_reducible first|exact HB.out|apply below_alloc|apply pw_below_drewN|apply below_drew1)|exact HB.out))) : w.heap.size ≤ gb111));clear HB;have HB := n0_;have BK111 := n1_;have GW111 := n2_;have GE111 := n3_;clear n0_ n1_ n2_ n3_;clear hb hbox hg;have hcz10_0 : w9.cell? ⟨gb111,0,none⟩ = some (.int .i64 a0_0) := (blk_cell BK111.out 0).trans rfl;have hcz10_1 : w9.cell? ⟨gb111,1,none⟩ = some (.int .i64 a0_1) := (blk_cell BK111.out 1).trans rfl;have hcz10_2 : w9.cell? ⟨gb111,2,none⟩ = some (.int .i64 a0_2) := (blk_cell BK111.out 2).trans rfl;have hfz10_0 := blk_frozen BK111.out 0;have hfz10_1 := blk_frozen BK111.out 1;have hfz10_2 := blk_frozen BK111.out 2))
      go_ret
      exact ⟨by first|rfl|(simp [errW_none,errW_some] <;> rfl)|(simp [*,errW_none,errW_some] <;> rfl),by repeat (first|(with_reducible first|exact HB.out|apply below_alloc|apply pw_below_drewN|apply below_drew1|refine below_set ?_ GE111.out)|exact HB.out)⟩
    ·rw [if_neg c5] at H
     have c5b0 : decide (a0_1 ≤ 2147483647) = false := decide_eq_false c5
     clear c5
     obtain rfl := Option.some.inj H
     go_enter Try.func30, Try.ntmps30
     go_wp2_with (first|((with_reducible refine gate_dst (N := 1) rfl ?_);refine box_event ?hg (N := 1) ?hd (cs := #[.int .i64 a0_0,.int .i64 a0_1,.int .i64 a0_2]) (t := 40) ?hr ?_;(case hd => rfl);(case hg => rfl);(case hr => first|(go_simp;done)|(go_simp;rfl));intro gb111 hg w11 hbox hb;have n0_ := Aside0.mk (below_step (by repeat (first|(with_reducible first|exact HB.out|apply below_alloc|apply pw_below_drewN|apply below_drew1)|exact HB.out)) hb);have n1_ := Aside0.mk (hbox);have n2_ := Aside0.mk ((by rw [hg];exact (below_size (by repeat (first|(with_reducible first|exact HB.out|apply below_alloc|apply pw_below_drewN|apply below_drew1)|exact HB.out))) : w.heap.size ≤ gb111));have n3_ := Aside0.mk ((by rw [hg];exact (below_size (by repeat (first|(with_reducible first|exact HB.out|apply below_alloc|apply pw_below_drewN|apply below_drew1)|exact HB.out))) : w.heap.size ≤ gb111));clear HB;have HB := n0_;have BK111 := n1_;have GW111 := n2_;have GE111 := n3_;clear n0_ n1_ n2_ n3_;clear hb hbox hg;have hcz12_0 : w11.cell? ⟨gb111,0,none⟩ = some (.int .i64 a0_0) := (blk_cell BK111.out 0).trans rfl;have hcz12_1 : w11.cell? ⟨gb111,1,none⟩ = some (.int .i64 a0_1) := (blk_cell BK111.out 1).trans rfl;have hcz12_2 : w11.cell? ⟨gb111,2,none⟩ = some (.int .i64 a0_2) := (blk_cell BK111.out 2).trans rfl;have hfz12_0 := blk_frozen BK111.out 0;have hfz12_1 := blk_frozen BK111.out 1;have hfz12_2 := blk_frozen BK111.out 2))
     go_ret
     exact ⟨by first|rfl|(simp [errW_none,errW_some] <;> rfl)|(simp [*,errW_none,errW_some] <;> rfl),by repeat (first|(with_reducible first|exact HB.out|apply below_alloc|apply pw_below_drewN|apply below_drew1|refine below_set ?_ GE111.out)|exact HB.out)⟩
   ·rw [if_neg c4] at H
    have c4b0 : decide (0 ≤ a0_1) = false := decide_eq_false c4
    clear c4
    obtain rfl := Option.some.inj H
    go_enter Try.func30, Try.ntmps30
    go_wp2_with (first|((with_reducible refine gate_dst (N := 1) rfl ?_);refine box_event ?hg (N := 1) ?hd (cs := #[.int .i64 a0_0,.int .i64 a0_1,.int .i64 a0_2]) (t := 40) ?hr ?_;(case hd => rfl);(case hg => rfl);(case hr => first|(go_simp;done)|(go_simp;rfl));intro gb111 hg w13 hbox hb;have n0_ := Aside0.mk (below_step (by repeat (first|(with_reducible first|exact HB.out|apply below_alloc|apply pw_below_drewN|apply below_drew1)|exact HB.out)) hb);have n1_ := Aside0.mk (hbox);have n2_ := Aside0.mk ((by rw [hg];exact (below_size (by repeat (first|(with_reducible first|exact HB.out|apply below_alloc|apply pw_below_drewN|apply below_drew1)|exact HB.out))) : w.heap.size ≤ gb111));have n3_ := Aside0.mk ((by rw [hg];exact (below_size (by repeat (first|(with_reducible first|exact HB.out|apply below_alloc|apply pw_below_drewN|apply below_drew1)|exact HB.out))) : w.heap.size ≤ gb111));clear HB;have HB := n0_;have BK111 := n1_;have GW111 := n2_;have GE111 := n3_;clear n0_ n1_ n2_ n3_;clear hb hbox hg;have hcz14_0 : w13.cell? ⟨gb111,0,none⟩ = some (.int .i64 a0_0) := (blk_cell BK111.out 0).trans rfl;have hcz14_1 : w13.cell? ⟨gb111,1,none⟩ = some (.int .i64 a0_1) := (blk_cell BK111.out 1).trans rfl;have hcz14_2 : w13.cell? ⟨gb111,2,none⟩ = some (.int .i64 a0_2) := (blk_cell BK111.out 2).trans rfl;have hfz14_0 := blk_frozen BK111.out 0;have hfz14_1 := blk_frozen BK111.out 1;have hfz14_2 := blk_frozen BK111.out 2))
    go_ret
    exact ⟨by first|rfl|(simp [errW_none,errW_some] <;> rfl)|(simp [*,errW_none,errW_some] <;> rfl),by repeat (first|(with_reducible first|exact HB.out|apply below_alloc|apply pw_below_drewN|apply below_drew1|refine below_set ?_ GE111.out)|exact HB.out)⟩
  ·rw [if_neg c3] at H
   have c3b0 : decide (a0_0 ≤ 4) = false := decide_eq_false c3
   clear c3
   obtain rfl := Option.some.inj H
   go_enter Try.func30, Try.ntmps30
   go_wp2_with (first|((with_reducible refine gate_dst (N := 1) rfl ?_);refine box_event ?hg (N := 1) ?hd (cs := #[.int .i64 a0_0,.int .i64 a0_1,.int .i64 a0_2]) (t := 40) ?hr ?_;(case hd => rfl);(case hg => rfl);(case hr => first|(go_simp;done)|(go_simp;rfl));intro gb111 hg w15 hbox hb;have n0_ := Aside0.mk (below_step (by repeat (first|(with_reducible first|exact HB.out|apply below_alloc|apply pw_below_drewN|apply below_drew1)|exact HB.out)) hb);have n1_ := Aside0.mk (hbox);have n2_ := Aside0.mk ((by rw [hg];exact (below_size (by repeat (first|(with_reducible first|exact HB.out|apply below_alloc|apply pw_below_drewN|apply below_drew1)|exact HB.out))) : w.heap.size ≤ gb111));have n3_ := Aside0.mk ((by rw [hg];exact (below_size (by repeat (first|(with_reducible first|exact HB.out|apply below_alloc|apply pw_below_drewN|apply below_drew1)|exact HB.out))) : w.heap.size ≤ gb111));clear HB;have HB := n0_;have BK111 := n1_;have GW111 := n2_;have GE111 := n3_;clear n0_ n1_ n2_ n3_;clear hb hbox hg;have hcz16_0 : w15.cell? ⟨gb111,0,none⟩ = some (.int .i64 a0_0) := (blk_cell BK111.out 0).trans rfl;have hcz16_1 : w15.cell? ⟨gb111,1,none⟩ = some (.int .i64 a0_1) := (blk_cell BK111.out 1).trans rfl;have hcz16_2 : w15.cell? ⟨gb111,2,none⟩ = some (.int .i64 a0_2) := (blk_cell BK111.out 2).trans rfl;have hfz16_0 := blk_frozen BK111.out 0;have hfz16_1 := blk_frozen BK111.out 1;have hfz16_2 := blk_frozen BK111.out 2))
   go_ret
   exact ⟨by first|rfl|(simp [errW_none,errW_some] <;> rfl)|(simp [*,errW_none,errW_some] <;> rfl),by repeat (first|(with_reducible first|exact HB.out|apply below_alloc|apply pw_below_drewN|apply below_drew1|refine below_set ?_ GE111.out)|exact HB.out)⟩
 ·rw [if_neg c2] at H
  have c2b0 : decide (1 ≤ a0_0) = false := decide_eq_false c2
  clear c2
  obtain rfl := Option.some.inj H
  go_enter Try.func30, Try.ntmps30
  go_wp2_with (first|((with_reducible refine gate_dst (N := 1) rfl ?_);refine box_event ?hg (N := 1) ?hd (cs := #[.int .i64 a0_0,.int .i64 a0_1,.int .i64 a0_2]) (t := 40) ?hr ?_;(case hd => rfl);(case hg => rfl);(case hr => first|(go_simp;done)|(go_simp;rfl));intro gb111 hg w17 hbox hb;have n0_ := Aside0.mk (below_step (by repeat (first|(with_reducible first|exact HB.out|apply below_alloc|apply pw_below_drewN|apply below_drew1)|exact HB.out)) hb);have n1_ := Aside0.mk (hbox);have n2_ := Aside0.mk ((by rw [hg];exact (below_size (by repeat (first|(with_reducible first|exact HB.out|apply below_alloc|apply pw_below_drewN|apply below_drew1)|exact HB.out))) : w.heap.size ≤ gb111));have n3_ := Aside0.mk ((by rw [hg];exact (below_size (by repeat (first|(with_reducible first|exact HB.out|apply below_alloc|apply pw_below_drewN|apply below_drew1)|exact HB.out))) : w.heap.size ≤ gb111));clear HB;have HB := n0_;have BK111 := n1_;have GW111 := n2_;have GE111 := n3_;clear n0_ n1_ n2_ n3_;clear hb hbox hg;have hcz18_0 : w17.cell? ⟨gb111,0,none⟩ = some (.int .i64 a0_0) := (blk_cell BK111.out 0).trans rfl;have hcz18_1 : w17.cell? ⟨gb111,1,none⟩ = some (.int .i64 a0_1) := (blk_cell BK111.out 1).trans rfl;have hcz18_2 : w17.cell? ⟨gb111,2,none⟩ = some (.int .i64 a0_2) := (blk_cell BK111.out 2).trans rfl;have hfz18_0 := blk_frozen BK111.out 0;have hfz18_1 := blk_frozen BK111.out 1;have hfz18_2 := blk_frozen BK111.out 2))
  go_ret
  exact ⟨by first|rfl|(simp [errW_none,errW_some] <;> rfl)|(simp [*,errW_none,errW_some] <;> rfl),by repeat (first|(with_reducible first|exact HB.out|apply below_alloc|apply pw_below_drewN|apply below_drew1|refine below_set ?_ GE111.out)|exact HB.out)⟩


/-! ### wire_Fixed: function 38 -/
def wire_Fixed.f (a0 : Int) : Option (List Int) := some (([(a0) % 256,(a0 / 256) % 256,(a0 / 65536) % 256,(a0 / 16777216) % 256] : List Int))
set_option maxHeartbeats 8000000 in
set_option maxRecDepth 100000 in
theorem wire_Fixed.calls (a0 : Int) (r : List Int) (w : World) (h : wire_Fixed.f a0 = some r) :
  Calls Try.prog 38 #[.int .u32 a0] w fun e w' => ∃ v0_ : Value,e = .returned (v0_) ∧ Kd.R (Kd.int .u8) 5 w' w.heap.size (fun _ => True) v0_ r ∧ Below w.heap.size w w' := by
 have HB := Aside0.mk (Below.refl w.heap.size w)
 have H : (some (([(a0) % 256, (a0 / 256) % 256, (a0 / 65536) % 256, (a0 / 16777216) % 256] : List Int))) = some r := h
 clear h
 obtain ⟨y112,hy112⟩ : ∃ y_ : List Int,y_ = (([(a0) % 256,(a0 / 256) % 256,(a0 / 65536) % 256,(a0 / 16777216) % 256] : List Int)) := ⟨_,rfl⟩
 replace H : (some y112) = some r := by first|(rw [hy112];with_reducible exact H)|(have H2_ := (Option.bind_some _ _).symm.trans H;rw [hy112];with_reducible exact H2_)|(have H2_ := (Option.bind_some _ _).symm.trans H;with_reducible exact H2_)|with_reducible exact H|(rw [hy112];exact H)|exact H
 have Ny112 := Aside0.mk hy112
 clear hy112
 obtain rfl := Option.some.inj H
 go_enter Try.func38, Try.ntmps38
 go_wp2_with (first|((with_reducible refine gate_dst (N := 14) rfl ?_);refine Kd.R_lit (Kd.int .u8) _ 5 ?hg (N := 14) ?hd (xs := ([(a0) % 256,(a0 / 256) % 256,(a0 / 65536) % 256,(a0 / 16777216) % 256] : List Int)) (inner := [.int .u8 ((a0) % 256),.int .u8 ((a0 / 256) % 256),.int .u8 ((a0 / 65536) % 256),.int .u8 ((a0 / 16777216) % 256)]) (ok := fun _ => True) (okp := fun _ => True) ?hr ?hp (fun _ hk => hk) trivial (Below.refl _ _) (Nat.le_refl _) (by simp) ?_;(case hd => rfl);(case hg => rfl);(case hr => first|(go_simp;done)|(go_simp;rfl));(case hp => exact (Reps.one (show Kd.M (Kd.int .u8) _ _ _ ((a0) % 256) [.int .u8 ((a0) % 256)] from rfl) (Reps.one (show Kd.M (Kd.int .u8) _ _ _ ((a0 / 256) % 256) [.int .u8 ((a0 / 256) % 256)] from rfl) (Reps.one (show Kd.M (Kd.int .u8) _ _ _ ((a0 / 65536) % 256) [.int .u8 ((a0 / 65536) % 256)] from rfl) (Reps.one (show Kd.M (Kd.int .u8) _ _ _ ((a0 / 16777216) % 256) [.int .u8 ((a0 / 16777216) % 256)] from rfl) (Reps.none _ _))))));intro v113 w2 ho3 hb hg_ hnew_;clear hg_ hnew_;(first|rw [← Ny112.out] at ho3|(simp only [Int.reduceToNat] at ho3;rw [← Ny112.out] at ho3));have n0_ := Aside0.mk (Kd.R_lower ho3 (below_size (by repeat (first|(with_reducible first|exact HB.out|apply below_alloc|apply pw_below_drewN|apply below_drew1)|exact HB.out))));have n1_ := Aside0.mk (below_step (by repeat (first|(with_reducible first|exact HB.out|apply below_alloc|apply pw_below_drewN|apply below_drew1)|exact HB.out)) hb);clear HB;have HO114 := n0_;have HB := n1_;clear n0_ n1_;clear hb ho3))
 go_ret
 exact ⟨_,by first|rfl|(simp [errW_none,errW_some] <;> rfl)|(simp [*,errW_none,errW_some] <;> rfl),by (with_reducible repeat (first|apply Kd.R_alloc|apply Kd.R_drewN|apply Kd.R_drew));exact HO114.out,by repeat (first|(with_reducible first|exact HB.out|apply below_alloc|apply pw_below_drewN|apply below_drew1)|exact HB.out)⟩


/-! ### oob_laid: function 31 -/
/-- four bytes of a made row, as cells -/
theorem four_cells {w : World} {v : Value} {base : Nat} {ok : Nat → Prop} {a b c d : Int} (h : Kd.R (Kd.int .u8) 5 w base ok v [a, b, c, d]) :
    ∃ ad cp, v = .slice (some ad) 4 cp ∧ ∀ j u, [Value.int .u8 a, .int .u8 b, .int .u8 c, .int .u8 d][j]? = some u → w.cell? (ad.add j) = some u := by
  obtain ⟨A, cp, rfl, _, hl, hm, hr⟩ := Kd.R_reads h
  obtain ⟨ad, rfl, hc⟩ := hr (by simp)
  refine ⟨ad, cp, rfl, fun j u hj => ?_⟩
  match j, hj with
  | 0, hj => obtain ⟨c', hl', hk, hcell⟩ := hc 0 a rfl
             obtain rfl : c' = [.int .u8 a] := hk
             simp at hj; exact hcell 0 u (by simpa using hj)
  | 1, hj => obtain ⟨c', hl', hk, hcell⟩ := hc 1 b rfl
             obtain rfl : c' = [.int .u8 b] := hk
             simp at hj; exact hcell 0 u (by simpa using hj)
  | 2, hj => obtain ⟨c', hl', hk, hcell⟩ := hc 2 c rfl
             obtain rfl : c' = [.int .u8 c] := hk
             simp at hj; exact hcell 0 u (by simpa using hj)
  | 3, hj => obtain ⟨c', hl', hk, hcell⟩ := hc 3 d rfl
             obtain rfl : c' = [.int .u8 d] := hk
             simp at hj; exact hcell 0 u (by simpa using hj)
  | j + 4, hj => simp at hj
set_option maxHeartbeats 1000000 in
set_option maxRecDepth 100000 in
theorem oob_laid.walk (a0 a1 a2 : Int) (w : World) :
    Calls Try.prog 31 #[.agg #[.int .i64 a0, .int .i64 a1, .int .i64 a2]] w fun e w' => e = .returned (.agg (([Value.int .u8 (a0 % 256), Value.int .u8 (a1 % 256), Value.int .u8 (a1 % 4294967296 / 256 % 256), Value.int .u8 (a1 % 4294967296 / 65536 % 256), Value.int .u8 (a1 % 4294967296 / 16777216 % 256), Value.int .u8 (a2 % 256), Value.int .u8 (a2 % 4294967296 / 256 % 256), Value.int .u8 (a2 % 4294967296 / 65536 % 256), Value.int .u8 (a2 % 4294967296 / 16777216 % 256), Value.int .u8 (a2 / 4294967296 % 256), Value.int .u8 (a2 / 4294967296 % 4294967296 / 256 % 256), Value.int .u8 (a2 / 4294967296 % 4294967296 / 65536 % 256), Value.int .u8 (a2 / 4294967296 % 4294967296 / 16777216 % 256)] : List Value).toArray)) ∧ Below w.heap.size w w' := by
  have hu65 := Try.underlying65
  have hu40 := Try.underlying40
  go_enter Try.func31, Try.ntmps31
  go_wp2_with (first
    | ((with_reducible refine gate_dst (N := 1) rfl ?_); refine box_event ?hg (N := 1) ?hd (cs := #[.int .i64 a0, .int .i64 a1, .int .i64 a2]) (t := 40) ?hr ?_; (case hd => rfl); (case hg => rfl); (case hr => first | (go_simp; done) | (go_simp; rfl)); intro g1 hg1 w1 hx1 hb1; have G1 := Aside0.mk hg1; have X1 := Aside0.mk hx1; have B1 := Aside0.mk hb1; clear hg1 hx1 hb1)
    | ((with_reducible refine gate_dst (N := 2) rfl ?_); refine box_event ?hg (N := 2) ?hd (cs := (List.replicate 13 (Value.int .u8 0)).toArray) (t := 65) ?hr ?_; (case hd => rfl); (case hg => rfl); (case hr => first | (go_simp; done) | (go_simp; rfl)); intro g2 hg2 w2 hx2 hb2; have G2 := Aside0.mk hg2; have X2 := Aside0.mk hx2; have B2 := Aside0.mk hb2; clear hg2 hx2 hb2)
    | ((with_reducible refine gate_dst (N := 3) rfl ?_); refine box_event ?hg (N := 3) ?hd (cs := (List.replicate 13 (Value.int .u8 0)).toArray) (t := 65) ?hr ?_; (case hd => rfl); (case hg => rfl); (case hr => first | (go_simp; done) | (go_simp; rfl)); intro g3 hg3 w3 hx3 hb3; have G3 := Aside0.mk hg3; have X3 := Aside0.mk hx3; have B3 := Aside0.mk hb3; clear hg3 hx3 hb3; have hc1 := blk_cell (blk_below (blk_below X1.out B2.out) B3.out) 0; have hc3 := blk_cell X3.out 0; have hf3 := blk_frozen X3.out 0; simp only [List.getElem?_toArray, List.getElem?_cons_zero] at hc1 hc3))
  have XA : Aside0 ((w3.setCell ⟨g3, 0, none⟩ (.int .u8 (a0 % 256))).heap[g1]? = some (.cells #[.int .i64 a0, .int .i64 a1, .int .i64 a2] 40 (0, 0))) := ⟨blk_far (blk_below (blk_below X1.out B2.out) B3.out) (by have := blk_lt X1.out; have := G2.out; have := B2.out.size; have := G3.out; intro h; simp at h; omega) _⟩
  have XB : Aside0 ((w3.setCell ⟨g3, 0, none⟩ (.int .u8 (a0 % 256))).heap[g2]? = some (.cells (List.replicate 13 (Value.int .u8 0)).toArray 65 (0, 0))) := ⟨blk_far (blk_below X2.out B3.out) (by have := blk_lt X2.out; have := G3.out; intro h; simp at h; omega) _⟩
  have XC : Aside0 ((w3.setCell ⟨g3, 0, none⟩ (.int .u8 (a0 % 256))).heap[g3]? = some (.cells ([Value.int .u8 (a0 % 256), Value.int .u8 0, Value.int .u8 0, Value.int .u8 0, Value.int .u8 0, Value.int .u8 0, Value.int .u8 0, Value.int .u8 0, Value.int .u8 0, Value.int .u8 0, Value.int .u8 0, Value.int .u8 0, Value.int .u8 0] : List Value).toArray 65 (0, 0))) := ⟨blk_put X3.out 0 _ rfl⟩
  have hg1 : g1 < g3 := by have := blk_lt X1.out; have := G2.out; have := B2.out.size; have := G3.out; omega
  have hg2 : g2 < g3 := by have := blk_lt X2.out; have := G3.out; omega
  have BW : Aside0 (Below w.heap.size w (w3.setCell ⟨g3, 0, none⟩ (.int .u8 (a0 % 256)))) := ⟨below_set (below_step (below_step B1.out B2.out) B3.out) (by have := G1.out; omega)⟩
  have HG2 : Aside0 (w.heap.size ≤ g2) := ⟨by have := G1.out; have := blk_lt X1.out; have := G2.out; have := B1.out.size; have := B2.out.size; omega⟩
  have hgw : Aside0 (w.heap.size ≤ g3) := ⟨by have := G1.out; omega⟩
  clear G1 G2 G3 X1 X2 X3 B1 B2 B3 hf3 hc1 hc3
  generalize w3.setCell ⟨g3, 0, none⟩ (.int .u8 (a0 % 256)) = W0 at XA XB XC BW ⊢
  have K1 := Aside0.mk hg1
  have K2 := Aside0.mk hg2
  clear hg1 hg2
  have hc1 := blk_cell XA.out 1
  simp only [List.getElem?_toArray, List.getElem?_cons_zero, List.getElem?_cons_succ] at hc1
  go_region_law (first
    | (refine goes_ (f := 38) Try.func38 (by kernel_rfl) rfl #[.int .u32 (a1 % 4294967296)] (by rfl) rfl rfl (by simp only [List.map_toArray, List.map_cons, List.map_nil]; rfl) ?_; (with_reducible refine (wire_Fixed.calls (a1 % 4294967296) _ _ rfl).mono ?_); rintro e wa1 ⟨v4, rfl, ho4, hb4⟩; refine ⟨_, rfl, ?_⟩; obtain ⟨ad4, cp4, rfl, hc4⟩ := four_cells ho4; have n1_ := Aside0.mk (blk_below (g := g1) (o := .cells #[.int .i64 a0, .int .i64 a1, .int .i64 a2] 40 (0, 0)) (blk_drew XA.out) hb4); have n2_ := Aside0.mk (blk_below (g := g2) (o := .cells (List.replicate 13 (Value.int .u8 0)).toArray 65 (0, 0)) (blk_drew XB.out) hb4); have n3_ := Aside0.mk (blk_below (g := g3) (o := .cells ([Value.int .u8 (a0 % 256), Value.int .u8 0, Value.int .u8 0, Value.int .u8 0, Value.int .u8 0, Value.int .u8 0, Value.int .u8 0, Value.int .u8 0, Value.int .u8 0, Value.int .u8 0, Value.int .u8 0, Value.int .u8 0, Value.int .u8 0] : List Value).toArray 65 (0, 0)) (blk_drew XC.out) hb4); have n4_ := Aside0.mk (below_step (below_drew1 BW.out) hb4); have C4 := Aside0.mk hc4; clear hc4 ho4 hb4 XA XB XC BW hc1; have XA := n1_; have XB := n2_; have XC := n3_; have BW := n4_; clear n1_ n2_ n3_ n4_)
    | (refine step_copy_splice rfl (.tmp 8) (.tmp 12) 36 36 rfl 5 Try.underlying36 (by kernel_rfl) (some ⟨g3, 1, none⟩) (some ad4) 12 12 4 cp4 rfl rfl g3 1 [Value.int .u8 (a0 % 256), Value.int .u8 0, Value.int .u8 0, Value.int .u8 0, Value.int .u8 0, Value.int .u8 0, Value.int .u8 0, Value.int .u8 0, Value.int .u8 0, Value.int .u8 0, Value.int .u8 0, Value.int .u8 0, Value.int .u8 0] 65 XC.out [.int .u8 (a1 % 4294967296 % 256), .int .u8 (a1 % 4294967296 / 256 % 256), .int .u8 (a1 % 4294967296 / 65536 % 256), .int .u8 (a1 % 4294967296 / 16777216 % 256)] rfl (fun _ => ⟨rfl, ad4, rfl, C4.out⟩) (by simp) (by simp [Value.oneCell']) g3 wa1 (Below.refl _ _) (Nat.le_refl _) ?_; intro wb1 hg5 hb5))
  have n1_ : Aside0 (wb1.heap[g1]? = some (.cells #[.int .i64 a0, .int .i64 a1, .int .i64 a2] 40 (0, 0))) := ⟨(hb5.block g1 K1.out).trans XA.out⟩
  have n2_ : Aside0 (wb1.heap[g2]? = some (.cells (List.replicate 13 (Value.int .u8 0)).toArray 65 (0, 0))) := ⟨(hb5.block g2 K2.out).trans XB.out⟩
  have n3_ : Aside0 (wb1.heap[g3]? = some (.cells ([Value.int .u8 (a0 % 256), Value.int .u8 (a1 % 4294967296 % 256), Value.int .u8 (a1 % 4294967296 / 256 % 256), Value.int .u8 (a1 % 4294967296 / 65536 % 256), Value.int .u8 (a1 % 4294967296 / 16777216 % 256), Value.int .u8 0, Value.int .u8 0, Value.int .u8 0, Value.int .u8 0, Value.int .u8 0, Value.int .u8 0, Value.int .u8 0, Value.int .u8 0] : List Value).toArray 65 (0, 0))) := ⟨hg5.out⟩
  have n4_ : Aside0 (Below w.heap.size w wb1) := ⟨BW.out.trans (hb5.mono hgw.out)⟩
  clear XA XB XC BW C4 hg5 hb5
  have XA := n1_
  have XB := n2_
  have XC := n3_
  have BW := n4_
  clear n1_ n2_ n3_ n4_
  go_wp2_with fail
  have hc2 := blk_cell XA.out 2
  simp only [List.getElem?_toArray, List.getElem?_cons_zero, List.getElem?_cons_succ] at hc2
  go_region_law (first
    | (refine goes_ (f := 38) Try.func38 (by kernel_rfl) rfl #[.int .u32 (a2 % 4294967296)] (by rfl) rfl rfl (by simp only [List.map_toArray, List.map_cons, List.map_nil]; rfl) ?_; (with_reducible refine (wire_Fixed.calls (a2 % 4294967296) _ _ rfl).mono ?_); rintro e wa2 ⟨v4, rfl, ho4, hb4⟩; refine ⟨_, rfl, ?_⟩; obtain ⟨ad4, cp4, rfl, hc4⟩ := four_cells ho4; have n1_ := Aside0.mk (blk_below (g := g1) (o := .cells #[.int .i64 a0, .int .i64 a1, .int .i64 a2] 40 (0, 0)) (blk_drew XA.out) hb4); have n2_ := Aside0.mk (blk_below (g := g2) (o := .cells (List.replicate 13 (Value.int .u8 0)).toArray 65 (0, 0)) (blk_drew XB.out) hb4); have n3_ := Aside0.mk (blk_below (g := g3) (o := .cells ([Value.int .u8 (a0 % 256), Value.int .u8 (a1 % 4294967296 % 256), Value.int .u8 (a1 % 4294967296 / 256 % 256), Value.int .u8 (a1 % 4294967296 / 65536 % 256), Value.int .u8 (a1 % 4294967296 / 16777216 % 256), Value.int .u8 0, Value.int .u8 0, Value.int .u8 0, Value.int .u8 0, Value.int .u8 0, Value.int .u8 0, Value.int .u8 0, Value.int .u8 0] : List Value).toArray 65 (0, 0)) (blk_drew XC.out) hb4); have n4_ := Aside0.mk (below_step (below_drew1 BW.out) hb4); have C4 := Aside0.mk hc4; clear hc4 ho4 hb4 XA XB XC BW hc2; have XA := n1_; have XB := n2_; have XC := n3_; have BW := n4_; clear n1_ n2_ n3_ n4_)
    | (refine step_copy_splice rfl (.tmp 14) (.tmp 18) 36 36 rfl 5 Try.underlying36 (by kernel_rfl) (some ⟨g3, 5, none⟩) (some ad4) 8 8 4 cp4 rfl rfl g3 5 [Value.int .u8 (a0 % 256), Value.int .u8 (a1 % 4294967296 % 256), Value.int .u8 (a1 % 4294967296 / 256 % 256), Value.int .u8 (a1 % 4294967296 / 65536 % 256), Value.int .u8 (a1 % 4294967296 / 16777216 % 256), Value.int .u8 0, Value.int .u8 0, Value.int .u8 0, Value.int .u8 0, Value.int .u8 0, Value.int .u8 0, Value.int .u8 0, Value.int .u8 0] 65 XC.out [.int .u8 (a2 % 4294967296 % 256), .int .u8 (a2 % 4294967296 / 256 % 256), .int .u8 (a2 % 4294967296 / 65536 % 256), .int .u8 (a2 % 4294967296 / 16777216 % 256)] rfl (fun _ => ⟨rfl, ad4, rfl, C4.out⟩) (by simp) (by simp [Value.oneCell']) g3 wa2 (Below.refl _ _) (Nat.le_refl _) ?_; intro wb2 hg5 hb5))
  have n1_ : Aside0 (wb2.heap[g1]? = some (.cells #[.int .i64 a0, .int .i64 a1, .int .i64 a2] 40 (0, 0))) := ⟨(hb5.block g1 K1.out).trans XA.out⟩
  have n2_ : Aside0 (wb2.heap[g2]? = some (.cells (List.replicate 13 (Value.int .u8 0)).toArray 65 (0, 0))) := ⟨(hb5.block g2 K2.out).trans XB.out⟩
  have n3_ : Aside0 (wb2.heap[g3]? = some (.cells ([Value.int .u8 (a0 % 256), Value.int .u8 (a1 % 4294967296 % 256), Value.int .u8 (a1 % 4294967296 / 256 % 256), Value.int .u8 (a1 % 4294967296 / 65536 % 256), Value.int .u8 (a1 % 4294967296 / 16777216 % 256), Value.int .u8 (a2 % 4294967296 % 256), Value.int .u8 (a2 % 4294967296 / 256 % 256), Value.int .u8 (a2 % 4294967296 / 65536 % 256), Value.int .u8 (a2 % 4294967296 / 16777216 % 256), Value.int .u8 0, Value.int .u8 0, Value.int .u8 0, Value.int .u8 0] : List Value).toArray 65 (0, 0))) := ⟨hg5.out⟩
  have n4_ : Aside0 (Below w.heap.size w wb2) := ⟨BW.out.trans (hb5.mono hgw.out)⟩
  clear XA XB XC BW C4 hg5 hb5
  have XA := n1_
  have XB := n2_
  have XC := n3_
  have BW := n4_
  clear n1_ n2_ n3_ n4_
  go_wp2_with fail
  have hc3 := blk_cell XA.out 2
  simp only [List.getElem?_toArray, List.getElem?_cons_zero, List.getElem?_cons_succ] at hc3
  go_region_law (first
    | (refine goes_ (f := 38) Try.func38 (by kernel_rfl) rfl #[.int .u32 (a2 / 4294967296 % 4294967296)] (by rfl) rfl rfl (by simp only [List.map_toArray, List.map_cons, List.map_nil]; rfl) ?_; (with_reducible refine (wire_Fixed.calls (a2 / 4294967296 % 4294967296) _ _ rfl).mono ?_); rintro e wa3 ⟨v4, rfl, ho4, hb4⟩; refine ⟨_, rfl, ?_⟩; obtain ⟨ad4, cp4, rfl, hc4⟩ := four_cells ho4; have n1_ := Aside0.mk (blk_below (g := g1) (o := .cells #[.int .i64 a0, .int .i64 a1, .int .i64 a2] 40 (0, 0)) (blk_drew XA.out) hb4); have n2_ := Aside0.mk (blk_below (g := g2) (o := .cells (List.replicate 13 (Value.int .u8 0)).toArray 65 (0, 0)) (blk_drew XB.out) hb4); have n3_ := Aside0.mk (blk_below (g := g3) (o := .cells ([Value.int .u8 (a0 % 256), Value.int .u8 (a1 % 4294967296 % 256), Value.int .u8 (a1 % 4294967296 / 256 % 256), Value.int .u8 (a1 % 4294967296 / 65536 % 256), Value.int .u8 (a1 % 4294967296 / 16777216 % 256), Value.int .u8 (a2 % 4294967296 % 256), Value.int .u8 (a2 % 4294967296 / 256 % 256), Value.int .u8 (a2 % 4294967296 / 65536 % 256), Value.int .u8 (a2 % 4294967296 / 16777216 % 256), Value.int .u8 0, Value.int .u8 0, Value.int .u8 0, Value.int .u8 0] : List Value).toArray 65 (0, 0)) (blk_drew XC.out) hb4); have n4_ := Aside0.mk (below_step (below_drew1 BW.out) hb4); have C4 := Aside0.mk hc4; clear hc4 ho4 hb4 XA XB XC BW hc3; have XA := n1_; have XB := n2_; have XC := n3_; have BW := n4_; clear n1_ n2_ n3_ n4_)
    | (refine step_copy_splice rfl (.tmp 20) (.tmp 25) 36 36 rfl 5 Try.underlying36 (by kernel_rfl) (some ⟨g3, 9, none⟩) (some ad4) 4 4 4 cp4 rfl rfl g3 9 [Value.int .u8 (a0 % 256), Value.int .u8 (a1 % 4294967296 % 256), Value.int .u8 (a1 % 4294967296 / 256 % 256), Value.int .u8 (a1 % 4294967296 / 65536 % 256), Value.int .u8 (a1 % 4294967296 / 16777216 % 256), Value.int .u8 (a2 % 4294967296 % 256), Value.int .u8 (a2 % 4294967296 / 256 % 256), Value.int .u8 (a2 % 4294967296 / 65536 % 256), Value.int .u8 (a2 % 4294967296 / 16777216 % 256), Value.int .u8 0, Value.int .u8 0, Value.int .u8 0, Value.int .u8 0] 65 XC.out [.int .u8 (a2 / 4294967296 % 4294967296 % 256), .int .u8 (a2 / 4294967296 % 4294967296 / 256 % 256), .int .u8 (a2 / 4294967296 % 4294967296 / 65536 % 256), .int .u8 (a2 / 4294967296 % 4294967296 / 16777216 % 256)] rfl (fun _ => ⟨rfl, ad4, rfl, C4.out⟩) (by simp) (by simp [Value.oneCell']) g3 wa3 (Below.refl _ _) (Nat.le_refl _) ?_; intro wb3 hg5 hb5))
  have n1_ : Aside0 (wb3.heap[g1]? = some (.cells #[.int .i64 a0, .int .i64 a1, .int .i64 a2] 40 (0, 0))) := ⟨(hb5.block g1 K1.out).trans XA.out⟩
  have n2_ : Aside0 (wb3.heap[g2]? = some (.cells (List.replicate 13 (Value.int .u8 0)).toArray 65 (0, 0))) := ⟨(hb5.block g2 K2.out).trans XB.out⟩
  have n3_ : Aside0 (wb3.heap[g3]? = some (.cells ([Value.int .u8 (a0 % 256), Value.int .u8 (a1 % 4294967296 % 256), Value.int .u8 (a1 % 4294967296 / 256 % 256), Value.int .u8 (a1 % 4294967296 / 65536 % 256), Value.int .u8 (a1 % 4294967296 / 16777216 % 256), Value.int .u8 (a2 % 4294967296 % 256), Value.int .u8 (a2 % 4294967296 / 256 % 256), Value.int .u8 (a2 % 4294967296 / 65536 % 256), Value.int .u8 (a2 % 4294967296 / 16777216 % 256), Value.int .u8 (a2 / 4294967296 % 4294967296 % 256), Value.int .u8 (a2 / 4294967296 % 4294967296 / 256 % 256), Value.int .u8 (a2 / 4294967296 % 4294967296 / 65536 % 256), Value.int .u8 (a2 / 4294967296 % 4294967296 / 16777216 % 256)] : List Value).toArray 65 (0, 0))) := ⟨hg5.out⟩
  have n4_ : Aside0 (Below w.heap.size w wb3) := ⟨BW.out.trans (hb5.mono hgw.out)⟩
  clear XA XB XC BW C4 hg5 hb5
  have XA := n1_
  have XB := n2_
  have XC := n3_
  have BW := n4_
  clear n1_ n2_ n3_ n4_
  have hl0 := blk_cell XC.out 0
  have hl1 := blk_cell XC.out 1
  have hl2 := blk_cell XC.out 2
  have hl3 := blk_cell XC.out 3
  have hl4 := blk_cell XC.out 4
  have hl5 := blk_cell XC.out 5
  have hl6 := blk_cell XC.out 6
  have hl7 := blk_cell XC.out 7
  have hl8 := blk_cell XC.out 8
  have hl9 := blk_cell XC.out 9
  have hl10 := blk_cell XC.out 10
  have hl11 := blk_cell XC.out 11
  have hl12 := blk_cell XC.out 12
  simp only [List.getElem?_toArray, List.getElem?_cons_zero, List.getElem?_cons_succ] at hl0 hl1 hl2 hl3 hl4 hl5 hl6 hl7 hl8 hl9 hl10 hl11 hl12
  have hr0 := blk_cell XB.out 0
  have hf0 := blk_frozen XB.out 0
  have hr1 := blk_cell XB.out 1
  have hf1 := blk_frozen XB.out 1
  have hr2 := blk_cell XB.out 2
  have hf2 := blk_frozen XB.out 2
  have hr3 := blk_cell XB.out 3
  have hf3 := blk_frozen XB.out 3
  have hr4 := blk_cell XB.out 4
  have hf4 := blk_frozen XB.out 4
  have hr5 := blk_cell XB.out 5
  have hf5 := blk_frozen XB.out 5
  have hr6 := blk_cell XB.out 6
  have hf6 := blk_frozen XB.out 6
  have hr7 := blk_cell XB.out 7
  have hf7 := blk_frozen XB.out 7
  have hr8 := blk_cell XB.out 8
  have hf8 := blk_frozen XB.out 8
  have hr9 := blk_cell XB.out 9
  have hf9 := blk_frozen XB.out 9
  have hr10 := blk_cell XB.out 10
  have hf10 := blk_frozen XB.out 10
  have hr11 := blk_cell XB.out 11
  have hf11 := blk_frozen XB.out 11
  have hr12 := blk_cell XB.out 12
  have hf12 := blk_frozen XB.out 12
  simp only [List.getElem?_toArray, List.getElem?_replicate, Nat.reduceLT, if_true] at hr0 hr1 hr2 hr3 hr4 hr5 hr6 hr7 hr8 hr9 hr10 hr11 hr12
  go_wp2
  have Y0 := blk_put (cs' := ([Value.int .u8 (a0 % 256), Value.int .u8 0, Value.int .u8 0, Value.int .u8 0, Value.int .u8 0, Value.int .u8 0, Value.int .u8 0, Value.int .u8 0, Value.int .u8 0, Value.int .u8 0, Value.int .u8 0, Value.int .u8 0, Value.int .u8 0] : List Value).toArray) XB.out 0 (.int .u8 (a0 % 256)) rfl
  have Y1 := blk_put (cs' := ([Value.int .u8 (a0 % 256), Value.int .u8 (a1 % 256), Value.int .u8 0, Value.int .u8 0, Value.int .u8 0, Value.int .u8 0, Value.int .u8 0, Value.int .u8 0, Value.int .u8 0, Value.int .u8 0, Value.int .u8 0, Value.int .u8 0, Value.int .u8 0] : List Value).toArray) Y0 1 (.int .u8 (a1 % 256)) rfl
  have Y2 := blk_put (cs' := ([Value.int .u8 (a0 % 256), Value.int .u8 (a1 % 256), Value.int .u8 (a1 % 4294967296 / 256 % 256), Value.int .u8 0, Value.int .u8 0, Value.int .u8 0, Value.int .u8 0, Value.int .u8 0, Value.int .u8 0, Value.int .u8 0, Value.int .u8 0, Value.int .u8 0, Value.int .u8 0] : List Value).toArray) Y1 2 (.int .u8 (a1 % 4294967296 / 256 % 256)) rfl
  have Y3 := blk_put (cs' := ([Value.int .u8 (a0 % 256), Value.int .u8 (a1 % 256), Value.int .u8 (a1 % 4294967296 / 256 % 256), Value.int .u8 (a1 % 4294967296 / 65536 % 256), Value.int .u8 0, Value.int .u8 0, Value.int .u8 0, Value.int .u8 0, Value.int .u8 0, Value.int .u8 0, Value.int .u8 0, Value.int .u8 0, Value.int .u8 0] : List Value).toArray) Y2 3 (.int .u8 (a1 % 4294967296 / 65536 % 256)) rfl
  have Y4 := blk_put (cs' := ([Value.int .u8 (a0 % 256), Value.int .u8 (a1 % 256), Value.int .u8 (a1 % 4294967296 / 256 % 256), Value.int .u8 (a1 % 4294967296 / 65536 % 256), Value.int .u8 (a1 % 4294967296 / 16777216 % 256), Value.int .u8 0, Value.int .u8 0, Value.int .u8 0, Value.int .u8 0, Value.int .u8 0, Value.int .u8 0, Value.int .u8 0, Value.int .u8 0] : List Value).toArray) Y3 4 (.int .u8 (a1 % 4294967296 / 16777216 % 256)) rfl
  have Y5 := blk_put (cs' := ([Value.int .u8 (a0 % 256), Value.int .u8 (a1 % 256), Value.int .u8 (a1 % 4294967296 / 256 % 256), Value.int .u8 (a1 % 4294967296 / 65536 % 256), Value.int .u8 (a1 % 4294967296 / 16777216 % 256), Value.int .u8 (a2 % 256), Value.int .u8 0, Value.int .u8 0, Value.int .u8 0, Value.int .u8 0, Value.int .u8 0, Value.int .u8 0, Value.int .u8 0] : List Value).toArray) Y4 5 (.int .u8 (a2 % 256)) rfl
  have Y6 := blk_put (cs' := ([Value.int .u8 (a0 % 256), Value.int .u8 (a1 % 256), Value.int .u8 (a1 % 4294967296 / 256 % 256), Value.int .u8 (a1 % 4294967296 / 65536 % 256), Value.int .u8 (a1 % 4294967296 / 16777216 % 256), Value.int .u8 (a2 % 256), Value.int .u8 (a2 % 4294967296 / 256 % 256), Value.int .u8 0, Value.int .u8 0, Value.int .u8 0, Value.int .u8 0, Value.int .u8 0, Value.int .u8 0] : List Value).toArray) Y5 6 (.int .u8 (a2 % 4294967296 / 256 % 256)) rfl
  have Y7 := blk_put (cs' := ([Value.int .u8 (a0 % 256), Value.int .u8 (a1 % 256), Value.int .u8 (a1 % 4294967296 / 256 % 256), Value.int .u8 (a1 % 4294967296 / 65536 % 256), Value.int .u8 (a1 % 4294967296 / 16777216 % 256), Value.int .u8 (a2 % 256), Value.int .u8 (a2 % 4294967296 / 256 % 256), Value.int .u8 (a2 % 4294967296 / 65536 % 256), Value.int .u8 0, Value.int .u8 0, Value.int .u8 0, Value.int .u8 0, Value.int .u8 0] : List Value).toArray) Y6 7 (.int .u8 (a2 % 4294967296 / 65536 % 256)) rfl
  have Y8 := blk_put (cs' := ([Value.int .u8 (a0 % 256), Value.int .u8 (a1 % 256), Value.int .u8 (a1 % 4294967296 / 256 % 256), Value.int .u8 (a1 % 4294967296 / 65536 % 256), Value.int .u8 (a1 % 4294967296 / 16777216 % 256), Value.int .u8 (a2 % 256), Value.int .u8 (a2 % 4294967296 / 256 % 256), Value.int .u8 (a2 % 4294967296 / 65536 % 256), Value.int .u8 (a2 % 4294967296 / 16777216 % 256), Value.int .u8 0, Value.int .u8 0, Value.int .u8 0, Value.int .u8 0] : List Value).toArray) Y7 8 (.int .u8 (a2 % 4294967296 / 16777216 % 256)) rfl
  have Y9 := blk_put (cs' := ([Value.int .u8 (a0 % 256), Value.int .u8 (a1 % 256), Value.int .u8 (a1 % 4294967296 / 256 % 256), Value.int .u8 (a1 % 4294967296 / 65536 % 256), Value.int .u8 (a1 % 4294967296 / 16777216 % 256), Value.int .u8 (a2 % 256), Value.int .u8 (a2 % 4294967296 / 256 % 256), Value.int .u8 (a2 % 4294967296 / 65536 % 256), Value.int .u8 (a2 % 4294967296 / 16777216 % 256), Value.int .u8 (a2 / 4294967296 % 256), Value.int .u8 0, Value.int .u8 0, Value.int .u8 0] : List Value).toArray) Y8 9 (.int .u8 (a2 / 4294967296 % 256)) rfl
  have Y10 := blk_put (cs' := ([Value.int .u8 (a0 % 256), Value.int .u8 (a1 % 256), Value.int .u8 (a1 % 4294967296 / 256 % 256), Value.int .u8 (a1 % 4294967296 / 65536 % 256), Value.int .u8 (a1 % 4294967296 / 16777216 % 256), Value.int .u8 (a2 % 256), Value.int .u8 (a2 % 4294967296 / 256 % 256), Value.int .u8 (a2 % 4294967296 / 65536 % 256), Value.int .u8 (a2 % 4294967296 / 16777216 % 256), Value.int .u8 (a2 / 4294967296 % 256), Value.int .u8 (a2 / 4294967296 % 4294967296 / 256 % 256), Value.int .u8 0, Value.int .u8 0] : List Value).toArray) Y9 10 (.int .u8 (a2 / 4294967296 % 4294967296 / 256 % 256)) rfl
  have Y11 := blk_put (cs' := ([Value.int .u8 (a0 % 256), Value.int .u8 (a1 % 256), Value.int .u8 (a1 % 4294967296 / 256 % 256), Value.int .u8 (a1 % 4294967296 / 65536 % 256), Value.int .u8 (a1 % 4294967296 / 16777216 % 256), Value.int .u8 (a2 % 256), Value.int .u8 (a2 % 4294967296 / 256 % 256), Value.int .u8 (a2 % 4294967296 / 65536 % 256), Value.int .u8 (a2 % 4294967296 / 16777216 % 256), Value.int .u8 (a2 / 4294967296 % 256), Value.int .u8 (a2 / 4294967296 % 4294967296 / 256 % 256), Value.int .u8 (a2 / 4294967296 % 4294967296 / 65536 % 256), Value.int .u8 0] : List Value).toArray) Y10 11 (.int .u8 (a2 / 4294967296 % 4294967296 / 65536 % 256)) rfl
  have Y12 := blk_put (cs' := ([Value.int .u8 (a0 % 256), Value.int .u8 (a1 % 256), Value.int .u8 (a1 % 4294967296 / 256 % 256), Value.int .u8 (a1 % 4294967296 / 65536 % 256), Value.int .u8 (a1 % 4294967296 / 16777216 % 256), Value.int .u8 (a2 % 256), Value.int .u8 (a2 % 4294967296 / 256 % 256), Value.int .u8 (a2 % 4294967296 / 65536 % 256), Value.int .u8 (a2 % 4294967296 / 16777216 % 256), Value.int .u8 (a2 / 4294967296 % 256), Value.int .u8 (a2 / 4294967296 % 4294967296 / 256 % 256), Value.int .u8 (a2 / 4294967296 % 4294967296 / 65536 % 256), Value.int .u8 (a2 / 4294967296 % 4294967296 / 16777216 % 256)] : List Value).toArray) Y11 12 (.int .u8 (a2 / 4294967296 % 4294967296 / 16777216 % 256)) rfl
  have hge : w.heap.size ≤ g2 := HG2.out
  refine bodyPost_ret (results_single rfl (Vals.cell g2 65 _ _ _ rfl Y12 Try.underlying65 rfl (by kernel_rfl) .nil)) rfl ⟨rfl, ?_⟩
  exact (below_set (below_set (below_set (below_set (below_set (below_set (below_set (below_set (below_set (below_set (below_set (below_set (below_set BW.out hge) hge) hge) hge) hge) hge) hge) hge) hge) hge) hge) hge) hge)
/-- a block of bytes is read as a row -/
theorem block_reads {w : World} {g t : Nat} {L : List Int} (hm : L.length ≤ 9223372036854775807) (h : w.heap[g]? = some (.cells (L.map (Value.int .u8)).toArray t (0, 0))) :
    Kd.C (Kd.int .u8) w (some ⟨g, 0, none⟩) L.length L := by
  refine Kd.C_of_reads (d := (0 : Int)) ⟨rfl, hm, fun _ => ⟨_, rfl, fun j hj => ?_⟩⟩
  have e := blk_cell h j
  have e2 : (⟨g, 0, none⟩ : Addr).add j = ⟨g, j, none⟩ := by
    by_cases h0 : j = 0
    · subst h0; rfl
    · simp [Addr.add, h0]
  rw [e2, e]
  simp [hj]
def oob_laidL (a0 a1 a2 : Int) : List Int := [a0 % 256, a1 % 256, a1 % 4294967296 / 256 % 256, a1 % 4294967296 / 65536 % 256, a1 % 4294967296 / 16777216 % 256, a2 % 256, a2 % 4294967296 / 256 % 256, a2 % 4294967296 / 65536 % 256, a2 % 4294967296 / 16777216 % 256, a2 / 4294967296 % 256, a2 / 4294967296 % 4294967296 / 256 % 256, a2 / 4294967296 % 4294967296 / 65536 % 256, a2 / 4294967296 % 4294967296 / 16777216 % 256]
def oob_laid.f (a0_0 a0_1 a0_2 : Int) : Option (List Int) := some (oob_laidL a0_0 a0_1 a0_2)


/-! ### crc_Add: function 32 -/
mutual
def crc_Add.l0 : Nat → Int → List Int → Int → Int → Option (Int)
 | 0, _, _, _, _ => none
 | k + 1,x5,x11,x12,x13 => if x13 < x12 then (if 0 ≤ x13 then (if x13 < (x11.length : Int) then (crc_Add.l1 k (Go.bits .xor .u32 x5 ((rd x11 x13) % 4294967296)) x11 x12 x13 0) else (none)) else (none)) else (some (Go.bits .xor .u32 4294967295 x5))
def crc_Add.l1 : Nat → Int → List Int → Int → Int → Int → Option (Int)
 | 0, _, _, _, _, _ => none
 | k + 1,x5,x11,x12,x13,x21 => if x21 < 8 then (if (Go.bits .and .u32 x5 1) = 1 then (crc_Add.l1 k (Go.bits .xor .u32 (x5 / 2) 3988292384) x11 x12 x13 (wrap64 (x21 + 1))) else (crc_Add.l1 k (x5 / 2) x11 x12 x13 (wrap64 (x21 + 1)))) else (crc_Add.l0 k x5 x11 x12 (wrap64 (x13 + 1)))
end
def crc_Add.f (k : Nat) (a0 : Int) (l1 : List Int) : Option (Int) := crc_Add.l0 k (Go.bits .xor .u32 4294967295 a0) l1 (l1.length : Int) 0
theorem crc_Add.mono_l : ∀ k,(∀ y0 y1 y2 y3,LeO (crc_Add.l0 k y0 y1 y2 y3) (crc_Add.l0 (k + 1) y0 y1 y2 y3)) ∧ (∀ y0 y1 y2 y3 y4,LeO (crc_Add.l1 k y0 y1 y2 y3 y4) (crc_Add.l1 (k + 1) y0 y1 y2 y3 y4))
 | 0 => ⟨fun _ _ _ _ r h => by simp [crc_Add.l0] at h, fun _ _ _ _ _ r h => by simp [crc_Add.l1] at h⟩
 | k + 1 => by
  obtain ⟨ih0, ih1⟩ := crc_Add.mono_l k
  refine ⟨?_, ?_⟩
  ·intro y0 y1 y2 y3
   unfold crc_Add.l0
   repeat' first
   | (with_reducible exact ih0 _ _ _ _)
   | (with_reducible exact ih1 _ _ _ _ _)
   | (with_reducible exact LeO.refl _)
   | (with_reducible exact LeO.none _)
   | (with_reducible refine LeO.ite ?_ ?_)
   | (with_reducible refine LeO.bind ?_ (fun _ => ?_))
   | exact ih0 _ _ _ _
   | exact ih1 _ _ _ _ _
   | exact LeO.none _
   | refine LeO.ite ?_ ?_
   | refine LeO.bind ?_ (fun _ => ?_)
  ·intro y0 y1 y2 y3 y4
   unfold crc_Add.l1
   repeat' first
   | (with_reducible exact ih0 _ _ _ _)
   | (with_reducible exact ih1 _ _ _ _ _)
   | (with_reducible exact LeO.refl _)
   | (with_reducible exact LeO.none _)
   | (with_reducible refine LeO.ite ?_ ?_)
   | (with_reducible refine LeO.bind ?_ (fun _ => ?_))
   | exact ih0 _ _ _ _
   | exact ih1 _ _ _ _ _
   | exact LeO.none _
   | refine LeO.ite ?_ ?_
   | refine LeO.bind ?_ (fun _ => ?_)
theorem crc_Add.mono : ∀ a0 a1 k, LeO (crc_Add.f k a0 a1) (crc_Add.f (k + 1) a0 a1) := by
 intro a0 a1 k
 obtain ⟨ih0, ih1⟩ := crc_Add.mono_l k
 unfold crc_Add.f
 repeat' first
   | (with_reducible exact ih0 _ _ _ _)
   | (with_reducible exact ih1 _ _ _ _ _)
   | (with_reducible exact LeO.refl _)
   | (with_reducible exact LeO.none _)
   | (with_reducible refine LeO.ite ?_ ?_)
   | (with_reducible refine LeO.bind ?_ (fun _ => ?_))
   | exact ih0 _ _ _ _
   | exact ih1 _ _ _ _ _
   | exact LeO.none _
   | refine LeO.ite ?_ ?_
   | refine LeO.bind ?_ (fun _ => ?_)
set_option maxHeartbeats 8000000 in
set_option maxRecDepth 100000 in
theorem crc_Add.calls (k : Nat) (a0 : Int) (A1 : Option Addr) (c1 : Nat) (l1 : List Int) (r : Int) (w : World) (hr1 : Kd.C (Kd.int .u8) w A1 l1.length l1) (hc1 : l1.length ≤ c1) (h : crc_Add.f k a0 l1 = some r) :
  Calls Try.prog 32 #[.int .u32 a0,.slice A1 l1.length c1] w fun e w' => e = .returned (.int .u32 r) ∧ Drawn0 w w' := by
 have HR1 := Aside0.mk hr1
 have HC1 := Aside0.mk hc1
 clear hr1 hc1
 have H : (crc_Add.l0 k (Go.bits .xor .u32 4294967295 a0) l1 (l1.length : Int) 0) = some r := h
 clear h
 have H' := Aside0.mk H
 clear H
 go_enter Try.func32, Try.ntmps32
 go_wp2
 go_loopg [5,13] k (fun kq v5 v13 w' => ∃ (x5_1 : Int) (x13_1 : Int),v5 = .int .u32 x5_1 ∧ v13 = .int .i64 x13_1 ∧ Aside0 (crc_Add.l0 kq x5_1 l1 (l1.length : Int) x13_1 = some r) ∧ Aside0 (kq ≤ k) ∧ Drawn0 w w')
 case atStart => exact ⟨(Go.bits .xor .u32 4294967295 a0),(0),(by first|rfl|(simp;done)|(simp [*];done)),(by first|rfl|(simp;done)|(simp [*];done)),H',⟨Nat.le_refl _⟩,by repeat (first|exact Drawn0.refl _|apply Drawn0.step)⟩
 case round =>
  clear H'
  try clear c1
  try clear p2
  obtain ⟨x5_1, x13_1, rfl, rfl, HA, HK1, ⟨m1, rfl⟩⟩ := hrel
  cases gk with
  | zero => exact absurd HA.out (by simp [crc_Add.l0])
  | succ k1 =>
   have H := HA.out
   clear HA
   simp only [crc_Add.l0] at H
   by_cases c3 : x13_1 < (l1.length : Int)
   ·rw [if_pos c3] at H
    have c3b0 : decide (x13_1 < (l1.length : Int)) = true := decide_eq_true c3
    clear c3
    by_cases c4 : 0 ≤ x13_1
    ·rw [if_pos c4] at H
     have c4b0 : decide (0 ≤ x13_1) = true := decide_eq_true c4
     clear c4
     by_cases c5 : x13_1 < (l1.length : Int)
     ·rw [if_pos c5] at H
      have c5b0 : decide (x13_1 < (l1.length : Int)) = true := decide_eq_true c5
      clear c5
      have H' := Aside0.mk H
      clear H
      have p115 : 0 ≤ (x13_1 : Int) := of_decide_eq_true (by first | (with_reducible assumption) | assumption)
      have q115 : x13_1 < (l1.length : Int) := of_decide_eq_true (by first | (with_reducible assumption) | assumption)
      obtain ⟨ad115, e115, hx115_0⟩ := Kd.at_int HR1.out x13_1 p115 q115
      cases e115
      replace p115 := eq_true p115
      replace q115 := eq_true q115
      go_wp2
      go_loopg [5,21] k1 (fun kq v5 v21 w' => ∃ (x5_2 : Int) (x21_2 : Int),v5 = .int .u32 x5_2 ∧ v21 = .int .i64 x21_2 ∧ Aside0 (crc_Add.l1 kq x5_2 l1 (l1.length : Int) x13_1 x21_2 = some r) ∧ Aside0 (kq ≤ k1) ∧ Drawn0 w w')
      case atStart => exact ⟨(Go.bits .xor .u32 x5_1 ((rd l1 x13_1) % 4294967296)),(0),(by first|rfl|(simp;done)|(simp [*];done)),(by first|rfl|(simp;done)|(simp [*];done)),H',⟨Nat.le_refl _⟩,by repeat (first|exact Drawn0.refl _|apply Drawn0.step)⟩
      case round =>
       clear H'
       try clear c1
       try clear p1
       try clear q1
       try clear hx1
       try clear p2
       try clear c3
       try clear c3b0
       try clear c4
       try clear c4b0
       try clear c5
       try clear c5b0
       try clear hx115_0
       try clear p115
       try clear p2
       try clear q115
       obtain ⟨x5_2, x21_2, rfl, rfl, HA, HK2, ⟨m2, rfl⟩⟩ := hrel
       cases gk with
       | zero => exact absurd HA.out (by simp [crc_Add.l1])
       | succ k2 =>
        have H := HA.out
        clear HA
        simp only [crc_Add.l1] at H
        by_cases c6 : x21_2 < 8
        ·rw [if_pos c6] at H
         have c6b0 : decide (x21_2 < 8) = true := decide_eq_true c6
         clear c6
         by_cases c7 : (Go.bits .and .u32 x5_2 1) = 1
         ·rw [if_pos c7] at H
          have c7b0 : ((Go.bits .and .u32 x5_2 1) == 1) = true := beq_iff_eq.mpr c7
          have c7b1 : ((Go.bits .and .u32 x5_2 1) != 1) = false := bne_eq_false_iff_eq.mpr c7
          clear c7
          have H' := Aside0.mk H
          clear H
          go_wp2
          go_roundg k2
          case measure => have := HK1.out; have := HK2.out; omega
          case rel => exact ⟨(Go.bits .xor .u32 (x5_2 / 2) 3988292384),(wrap64 (x21_2 + 1)),(by first|rfl|(simp;done)|(simp [*];done)),(by first|rfl|(simp;done)|(simp [*];done)),H',⟨by have := HK1.out;have := HK2.out;omega⟩,by repeat (first|exact Drawn0.refl _|apply Drawn0.step)⟩
         ·rw [if_neg c7] at H
          have c7b0 : ((Go.bits .and .u32 x5_2 1) == 1) = false := beq_eq_false_iff_ne.mpr c7
          have c7b1 : ((Go.bits .and .u32 x5_2 1) != 1) = true := bne_iff_ne.mpr c7
          have H' := Aside0.mk H
          clear H
          go_wp2
          go_roundg k2
          case measure => have := HK1.out; have := HK2.out; omega
          case rel => exact ⟨(x5_2 / 2),(wrap64 (x21_2 + 1)),(by first|rfl|(simp;done)|(simp [*];done)),(by first|rfl|(simp;done)|(simp [*];done)),H',⟨by have := HK1.out;have := HK2.out;omega⟩,by repeat (first|exact Drawn0.refl _|apply Drawn0.step)⟩
        ·rw [if_neg c6] at H
         have c6b0 : decide (x21_2 < 8) = false := decide_eq_false c6
         clear c6
         have H' := Aside0.mk H
         clear H
         go_wp2
         go_roundg k2
         case measure => have := HK1.out; have := HK2.out; omega
         case rel => exact ⟨(x5_2),(wrap64 (x13_1 + 1)),(by first|rfl|(simp;done)|(simp [*];done)),(by first|rfl|(simp;done)|(simp [*];done)),H',⟨by have := HK1.out;have := HK2.out;omega⟩,by repeat (first|exact Drawn0.refl _|apply Drawn0.step)⟩
     ·rw [if_neg c5] at H
      exact absurd H (by simp)
    ·rw [if_neg c4] at H
     exact absurd H (by simp)
   ·rw [if_neg c3] at H
    have c3b0 : decide (x13_1 < (l1.length : Int)) = false := decide_eq_false c3
    clear c3
    obtain rfl := Option.some.inj H
    go_wp2
    go_ret
    exact ⟨by first|rfl|(simp;done)|(simp [*];done),by repeat (first|exact Drawn0.refl _|apply Drawn0.step)⟩


/-! ### crc_Sum: function 33 -/
def crc_Sum.f (k : Nat) (l0 : List Int) : Option (Int) := (crc_Add.f k 0 l0).bind fun t116 => (some t116)
theorem crc_Sum.mono : ∀ a0 k, LeO (crc_Sum.f k a0) (crc_Sum.f (k + 1) a0) := by
 intro a0 k
 unfold crc_Sum.f
 repeat' first
   | (with_reducible exact crc_Add.mono _ _ _)
   | (with_reducible exact LeO.refl _)
   | (with_reducible exact LeO.none _)
   | (with_reducible refine LeO.ite ?_ ?_)
   | (with_reducible refine LeO.bind ?_ (fun _ => ?_))
   | exact crc_Add.mono _ _ _
   | exact LeO.none _
   | refine LeO.ite ?_ ?_
   | refine LeO.bind ?_ (fun _ => ?_)
set_option maxHeartbeats 8000000 in
set_option maxRecDepth 100000 in
theorem crc_Sum.calls (k : Nat) (A0 : Option Addr) (c0 : Nat) (l0 : List Int) (r : Int) (w : World) (hr0 : Kd.C (Kd.int .u8) w A0 l0.length l0) (hc0 : l0.length ≤ c0) (h : crc_Sum.f k l0 = some r) :
  Calls Try.prog 33 #[.slice A0 l0.length c0] w fun e w' => e = .returned (.int .u32 r) ∧ Drawn0 w w' := by
 have HR0 := Aside0.mk hr0
 have HC0 := Aside0.mk hc0
 clear hr0 hc0
 have H : ((crc_Add.f k 0 l0).bind fun t116 => (some t116)) = some r := h
 clear h
 replace H := Option.bind_eq_some_iff.mp H
 obtain ⟨t116, A20, H⟩ := H
 replace H : (some t116) = some r := H
 have A2 := Aside0.mk A20
 clear A20
 obtain rfl := Option.some.inj H
 go_enter Try.func33, Try.ntmps33
 go_wp2_with (first|((with_reducible refine gate_callee (f := 32) rfl ?_);refine goesL_ (some 4) rfl rfl Try.func32 (by kernel_rfl) rfl #[.int .u32 0,.slice A0 l0.length c0] rfl (by (try simp only [List.map_toArray,List.map_cons,List.map_nil]);first|done|rfl|(simp only [List.length_drop,List.length_take];rfl)) ?_;(with_reducible refine (crc_Add.calls k 0 _ _ l0 t116 _ ?side1 ?side2 A2.out).mono ?_);(case side1 => repeat (first|exact HR0.out|(with_reducible refine Kd.C_alloc ?_ _)|(with_reducible refine Kd.C_drewN ?_ _)|(with_reducible refine Kd.C_drew ?_)));(case side2 => exact HC0.out);rintro e w' ⟨rfl,⟨nd,rfl⟩⟩;refine ⟨_,rfl,?_⟩))
 go_ret
 exact ⟨by first | rfl | (simp; done) | (simp [*]; done), by repeat (first | exact Drawn0.refl _ | apply Drawn0.step)⟩


/-! ### oob_Pack: function 22 -/
theorem sum_len {n : Nat} (k : Nat) (A : Option Addr) (L : List Int) (r : Int) (w : World) (hL : L.length = n) (hr : Kd.C (Kd.int .u8) w A n L) (c : Nat) (hc : n ≤ c) (h : crc_Sum.f k L = some r) :
    Calls Try.prog 33 #[.slice A n c] w fun e w' => e = .returned (.int .u32 r) ∧ Drawn0 w w' := by
  subst hL
  exact crc_Sum.calls k A c L r w hr hc h
theorem add_len {n : Nat} (k : Nat) (a0 : Int) (A : Option Addr) (L : List Int) (r : Int) (w : World) (hL : L.length = n) (hr : Kd.C (Kd.int .u8) w A n L) (c : Nat) (hc : n ≤ c) (h : crc_Add.f k a0 L = some r) :
    Calls Try.prog 32 #[.int .u32 a0, .slice A n c] w fun e w' => e = .returned (.int .u32 r) ∧ Drawn0 w w' := by
  subst hL
  exact crc_Add.calls k a0 A c L r w hr hc h
set_option maxHeartbeats 1000000 in
set_option maxRecDepth 100000 in
theorem pack_ok (k : Nat) (a0 a1 a2 : Int) (A1 : Option Addr) (c1 : Nat) (l1 : List Int) (s t : Int) (x0 x1 x2 x3 x4 x5 x6 x7 x8 x9 x10 x11 x12 : Int) (w : World) (hr1 : Kd.C (Kd.int .u8) w A1 16 l1) (hc1 : 16 ≤ c1)
    (hR : oob_Right.f a0 a1 a2 = some true) (hl : l1.length = 16)
    (hL : ∀ w, Calls Try.prog 31 #[.agg #[.int .i64 a0, .int .i64 a1, .int .i64 a2]] w fun e w' => e = .returned (.agg #[.int .u8 x0, .int .u8 x1, .int .u8 x2, .int .u8 x3, .int .u8 x4, .int .u8 x5, .int .u8 x6, .int .u8 x7, .int .u8 x8, .int .u8 x9, .int .u8 x10, .int .u8 x11, .int .u8 x12]) ∧ Below w.heap.size w w')
    (hS : crc_Sum.f k [x0, x1, x2, x3, x4, x5, x6, x7, x8, x9, x10, x11, x12] = some s) (hA : crc_Add.f k s l1 = some t) :
    Calls Try.prog 22 #[.agg #[.int .i64 a0, .int .i64 a1, .int .i64 a2], .slice A1 16 c1] w fun e w' => ∃ v0_ : Value, e = .returned (.tuple #[v0_, .int .i64 0]) ∧ Kd.R (Kd.int .u8) 5 w' w.heap.size (fun _ => True) v0_ ([x0, x1, x2, x3, x4, x5, x6, x7, x8, x9, x10, x11, x12] ++ [t % 256, t / 256 % 256, t / 65536 % 256, t / 16777216 % 256]) ∧ Below w.heap.size w w' := by
  have HR1 := Aside0.mk hr1
  have HC1 := Aside0.mk hc1
  have HRT := Aside0.mk hR
  have HLD := Aside0.mk hL
  have HSM := Aside0.mk hS
  have HAD := Aside0.mk hA
  have HLN := Aside0.mk hl
  clear hr1 hc1 hR hL hS hA hl
  have hu65 := Try.underlying65
  have hu40 := Try.underlying40
  have HB := Aside0.mk (Below.refl w.heap.size w)
  go_enter Try.func22, Try.ntmps22
  go_wp2_with (first
    | ((with_reducible refine gate_dst (N := 2) rfl ?_); refine box_event ?hg (N := 2) ?hd (cs := #[.int .i64 a0, .int .i64 a1, .int .i64 a2]) (t := 40) ?hr ?_; (case hd => rfl); (case hg => rfl); (case hr => first | (go_simp; done) | (go_simp; rfl)); intro gb hg w1 hbox hb; have n0_ := Aside0.mk (below_step (by repeat (first | (with_reducible first | exact HB.out | apply below_alloc | apply pw_below_drewN | apply below_drew1 | refine below_set ?_ GE.out) | exact HB.out)) hb); have BK := Aside0.mk hbox; have GE := Aside0.mk (by rw [hg]; exact (below_size (by repeat (first | (with_reducible first | exact HB.out | apply below_alloc | apply pw_below_drewN | apply below_drew1 | refine below_set ?_ GE.out) | exact HB.out))) : w.heap.size ≤ gb); clear HB; have HB := n0_; clear n0_ hb hbox hg; have hc0 : w1.cell? ⟨gb, 0, none⟩ = some (.int .i64 a0) := (blk_cell BK.out 0).trans rfl; have hc1 : w1.cell? ⟨gb, 1, none⟩ = some (.int .i64 a1) := (blk_cell BK.out 1).trans rfl; have hc2 : w1.cell? ⟨gb, 2, none⟩ = some (.int .i64 a2) := (blk_cell BK.out 2).trans rfl)
    | ((with_reducible refine gate_callee (f := 30) rfl ?_); refine goesL_ (some 9) rfl rfl Try.func30 (by kernel_rfl) rfl #[.agg #[.int .i64 a0, .int .i64 a1, .int .i64 a2]] rfl (by (try simp only [List.map_toArray, List.map_cons, List.map_nil]); first | done | rfl) ?_; (with_reducible refine (oob_Right.calls a0 a1 a2 true _ HRT.out).mono ?_); rintro e w2 ⟨rfl, hb⟩; refine ⟨_, rfl, ?_⟩; have n0_ := Aside0.mk (blk_below (g := gb) (o := .cells #[.int .i64 a0, .int .i64 a1, .int .i64 a2] 40 (0, 0)) (by (with_reducible repeat (first | refine blk_drewN ?_ _ | refine blk_drew ?_ | refine blk_alloc ?_ _)); exact BK.out) hb); have n1_ := Aside0.mk (below_step (by repeat (first | (with_reducible first | exact HB.out | apply below_alloc | apply pw_below_drewN | apply below_drew1 | refine below_set ?_ GE.out) | exact HB.out)) hb); clear BK HB; have BK := n0_; have HB := n1_; clear n0_ n1_ hb hc0 hc1 hc2; have hc0 : w2.cell? ⟨gb, 0, none⟩ = some (.int .i64 a0) := (blk_cell BK.out 0).trans rfl; have hc1 : w2.cell? ⟨gb, 1, none⟩ = some (.int .i64 a1) := (blk_cell BK.out 1).trans rfl; have hc2 : w2.cell? ⟨gb, 2, none⟩ = some (.int .i64 a2) := (blk_cell BK.out 2).trans rfl)
    | ((with_reducible refine gate_callee (f := 31) rfl ?_); refine goesL_ (some 17) rfl rfl Try.func31 (by kernel_rfl) rfl #[.agg #[.int .i64 a0, .int .i64 a1, .int .i64 a2]] rfl (by (try simp only [List.map_toArray, List.map_cons, List.map_nil]); first | done | rfl) ?_; (with_reducible refine (HLD.out _).mono ?_); rintro e w3 ⟨rfl, hb⟩; refine ⟨_, rfl, ?_⟩; have n1_ := Aside0.mk (below_step (by repeat (first | (with_reducible first | exact HB.out | apply below_alloc | apply pw_below_drewN | apply below_drew1 | refine below_set ?_ GE.out) | exact HB.out)) hb); clear BK HB hc0 hc1 hc2; have HB := n1_; clear n1_ hb)
    | ((with_reducible refine gate_dst (N := 6) rfl ?_); refine box_event ?hg (N := 6) ?hd (cs := (List.replicate 13 (Value.int .u8 0)).toArray) (t := 65) ?hr ?_; (case hd => rfl); (case hg => rfl); (case hr => first | (go_simp; done) | (go_simp; rfl)); intro ga hg w4 hbox hb; have n0_ := Aside0.mk (below_step (by repeat (first | (with_reducible first | exact HB.out | apply below_alloc | apply pw_below_drewN | apply below_drew1 | refine below_set ?_ GE.out) | exact HB.out)) hb); have XA := Aside0.mk hbox; have GA := Aside0.mk (by rw [hg]; exact (below_size (by repeat (first | (with_reducible first | exact HB.out | apply below_alloc | apply pw_below_drewN | apply below_drew1 | refine below_set ?_ GE.out) | exact HB.out))) : w.heap.size ≤ ga); clear HB; have HB := n0_; clear n0_ hb hbox hg; have hf0 := blk_frozen XA.out 0; have hr0 := blk_cell XA.out 0; have hf1 := blk_frozen XA.out 1; have hr1 := blk_cell XA.out 1; have hf2 := blk_frozen XA.out 2; have hr2 := blk_cell XA.out 2; have hf3 := blk_frozen XA.out 3; have hr3 := blk_cell XA.out 3; have hf4 := blk_frozen XA.out 4; have hr4 := blk_cell XA.out 4; have hf5 := blk_frozen XA.out 5; have hr5 := blk_cell XA.out 5; have hf6 := blk_frozen XA.out 6; have hr6 := blk_cell XA.out 6; have hf7 := blk_frozen XA.out 7; have hr7 := blk_cell XA.out 7; have hf8 := blk_frozen XA.out 8; have hr8 := blk_cell XA.out 8; have hf9 := blk_frozen XA.out 9; have hr9 := blk_cell XA.out 9; have hf10 := blk_frozen XA.out 10; have hr10 := blk_cell XA.out 10; have hf11 := blk_frozen XA.out 11; have hr11 := blk_cell XA.out 11; have hf12 := blk_frozen XA.out 12; have hr12 := blk_cell XA.out 12; simp only [List.getElem?_toArray, List.getElem?_replicate, Nat.reduceLT, if_true] at hr0 hr1 hr2 hr3 hr4 hr5 hr6 hr7 hr8 hr9 hr10 hr11 hr12)
    | ((with_reducible refine gate_callee (f := 33) rfl ?_); have Y0 := blk_put (cs' := ([.int .u8 x0, .int .u8 0, .int .u8 0, .int .u8 0, .int .u8 0, .int .u8 0, .int .u8 0, .int .u8 0, .int .u8 0, .int .u8 0, .int .u8 0, .int .u8 0, .int .u8 0] : List Value).toArray) XA.out 0 (.int .u8 x0) rfl; have Y1 := blk_put (cs' := ([.int .u8 x0, .int .u8 x1, .int .u8 0, .int .u8 0, .int .u8 0, .int .u8 0, .int .u8 0, .int .u8 0, .int .u8 0, .int .u8 0, .int .u8 0, .int .u8 0, .int .u8 0] : List Value).toArray) Y0 1 (.int .u8 x1) rfl; have Y2 := blk_put (cs' := ([.int .u8 x0, .int .u8 x1, .int .u8 x2, .int .u8 0, .int .u8 0, .int .u8 0, .int .u8 0, .int .u8 0, .int .u8 0, .int .u8 0, .int .u8 0, .int .u8 0, .int .u8 0] : List Value).toArray) Y1 2 (.int .u8 x2) rfl; have Y3 := blk_put (cs' := ([.int .u8 x0, .int .u8 x1, .int .u8 x2, .int .u8 x3, .int .u8 0, .int .u8 0, .int .u8 0, .int .u8 0, .int .u8 0, .int .u8 0, .int .u8 0, .int .u8 0, .int .u8 0] : List Value).toArray) Y2 3 (.int .u8 x3) rfl; have Y4 := blk_put (cs' := ([.int .u8 x0, .int .u8 x1, .int .u8 x2, .int .u8 x3, .int .u8 x4, .int .u8 0, .int .u8 0, .int .u8 0, .int .u8 0, .int .u8 0, .int .u8 0, .int .u8 0, .int .u8 0] : List Value).toArray) Y3 4 (.int .u8 x4) rfl; have Y5 := blk_put (cs' := ([.int .u8 x0, .int .u8 x1, .int .u8 x2, .int .u8 x3, .int .u8 x4, .int .u8 x5, .int .u8 0, .int .u8 0, .int .u8 0, .int .u8 0, .int .u8 0, .int .u8 0, .int .u8 0] : List Value).toArray) Y4 5 (.int .u8 x5) rfl; have Y6 := blk_put (cs' := ([.int .u8 x0, .int .u8 x1, .int .u8 x2, .int .u8 x3, .int .u8 x4, .int .u8 x5, .int .u8 x6, .int .u8 0, .int .u8 0, .int .u8 0, .int .u8 0, .int .u8 0, .int .u8 0] : List Value).toArray) Y5 6 (.int .u8 x6) rfl; have Y7 := blk_put (cs' := ([.int .u8 x0, .int .u8 x1, .int .u8 x2, .int .u8 x3, .int .u8 x4, .int .u8 x5, .int .u8 x6, .int .u8 x7, .int .u8 0, .int .u8 0, .int .u8 0, .int .u8 0, .int .u8 0] : List Value).toArray) Y6 7 (.int .u8 x7) rfl; have Y8 := blk_put (cs' := ([.int .u8 x0, .int .u8 x1, .int .u8 x2, .int .u8 x3, .int .u8 x4, .int .u8 x5, .int .u8 x6, .int .u8 x7, .int .u8 x8, .int .u8 0, .int .u8 0, .int .u8 0, .int .u8 0] : List Value).toArray) Y7 8 (.int .u8 x8) rfl; have Y9 := blk_put (cs' := ([.int .u8 x0, .int .u8 x1, .int .u8 x2, .int .u8 x3, .int .u8 x4, .int .u8 x5, .int .u8 x6, .int .u8 x7, .int .u8 x8, .int .u8 x9, .int .u8 0, .int .u8 0, .int .u8 0] : List Value).toArray) Y8 9 (.int .u8 x9) rfl; have Y10 := blk_put (cs' := ([.int .u8 x0, .int .u8 x1, .int .u8 x2, .int .u8 x3, .int .u8 x4, .int .u8 x5, .int .u8 x6, .int .u8 x7, .int .u8 x8, .int .u8 x9, .int .u8 x10, .int .u8 0, .int .u8 0] : List Value).toArray) Y9 10 (.int .u8 x10) rfl; have Y11 := blk_put (cs' := ([.int .u8 x0, .int .u8 x1, .int .u8 x2, .int .u8 x3, .int .u8 x4, .int .u8 x5, .int .u8 x6, .int .u8 x7, .int .u8 x8, .int .u8 x9, .int .u8 x10, .int .u8 x11, .int .u8 0] : List Value).toArray) Y10 11 (.int .u8 x11) rfl; have Y12 := blk_put (cs' := ([.int .u8 x0, .int .u8 x1, .int .u8 x2, .int .u8 x3, .int .u8 x4, .int .u8 x5, .int .u8 x6, .int .u8 x7, .int .u8 x8, .int .u8 x9, .int .u8 x10, .int .u8 x11, .int .u8 x12] : List Value).toArray) Y11 12 (.int .u8 x12) rfl; have n1_ : Aside0 (Below w.heap.size w (((((((((((((w4.setCell ⟨ga, 0, none⟩ (.int .u8 x0)).setCell ⟨ga, 1, none⟩ (.int .u8 x1)).setCell ⟨ga, 2, none⟩ (.int .u8 x2)).setCell ⟨ga, 3, none⟩ (.int .u8 x3)).setCell ⟨ga, 4, none⟩ (.int .u8 x4)).setCell ⟨ga, 5, none⟩ (.int .u8 x5)).setCell ⟨ga, 6, none⟩ (.int .u8 x6)).setCell ⟨ga, 7, none⟩ (.int .u8 x7)).setCell ⟨ga, 8, none⟩ (.int .u8 x8)).setCell ⟨ga, 9, none⟩ (.int .u8 x9)).setCell ⟨ga, 10, none⟩ (.int .u8 x10)).setCell ⟨ga, 11, none⟩ (.int .u8 x11)).setCell ⟨ga, 12, none⟩ (.int .u8 x12))) := Aside0.mk (below_set (below_set (below_set (below_set (below_set (below_set (below_set (below_set (below_set (below_set (below_set (below_set (below_set HB.out GA.out) GA.out) GA.out) GA.out) GA.out) GA.out) GA.out) GA.out) GA.out) GA.out) GA.out) GA.out) GA.out); have n0_ := Aside0.mk Y12; clear Y0 hf0 hr0 Y1 hf1 hr1 Y2 hf2 hr2 Y3 hf3 hr3 Y4 hf4 hr4 Y5 hf5 hr5 Y6 hf6 hr6 Y7 hf7 hr7 Y8 hf8 hr8 Y9 hf9 hr9 Y10 hf10 hr10 Y11 hf11 hr11 Y12 hf12 hr12 XA HB; generalize hW : (((((((((((((w4.setCell ⟨ga, 0, none⟩ (.int .u8 x0)).setCell ⟨ga, 1, none⟩ (.int .u8 x1)).setCell ⟨ga, 2, none⟩ (.int .u8 x2)).setCell ⟨ga, 3, none⟩ (.int .u8 x3)).setCell ⟨ga, 4, none⟩ (.int .u8 x4)).setCell ⟨ga, 5, none⟩ (.int .u8 x5)).setCell ⟨ga, 6, none⟩ (.int .u8 x6)).setCell ⟨ga, 7, none⟩ (.int .u8 x7)).setCell ⟨ga, 8, none⟩ (.int .u8 x8)).setCell ⟨ga, 9, none⟩ (.int .u8 x9)).setCell ⟨ga, 10, none⟩ (.int .u8 x10)).setCell ⟨ga, 11, none⟩ (.int .u8 x11)).setCell ⟨ga, 12, none⟩ (.int .u8 x12)) = W at n0_ n1_ ⊢; have XA := n0_; have HB := n1_; clear n0_ n1_ hW; have RD : Aside0 (Kd.C (Kd.int .u8) W (some ⟨ga, 0, none⟩) 13 [x0, x1, x2, x3, x4, x5, x6, x7, x8, x9, x10, x11, x12]) := ⟨block_reads (L := [x0, x1, x2, x3, x4, x5, x6, x7, x8, x9, x10, x11, x12]) (by simp) XA.out⟩; have PR : Aside0 (Kd.C (Kd.int .u8) W A1 16 l1) := ⟨Kd.C_below HR1.out HB.out⟩; refine goesL_ (some 19) rfl rfl Try.func33 (by kernel_rfl) rfl #[.slice (some ⟨ga, 0, none⟩) 13 13] rfl (by (try simp only [List.map_toArray, List.map_cons, List.map_nil]); first | done | rfl) ?_; (with_reducible refine (sum_len (n := 13) k _ _ s _ rfl ?side1 13 ?side2 HSM.out).mono ?_); (case side1 => repeat (first | exact RD.out | (with_reducible refine Kd.C_alloc ?_ _) | (with_reducible refine Kd.C_drewN ?_ _) | (with_reducible refine Kd.C_drew ?_))); (case side2 => decide); rintro e w' ⟨rfl, ⟨nd, rfl⟩⟩; refine ⟨_, rfl, ?_⟩)
    | ((with_reducible refine gate_callee (f := 32) rfl ?_); refine goesL_ (some 21) rfl rfl Try.func32 (by kernel_rfl) rfl #[.int .u32 s, .slice A1 16 c1] rfl (by (try simp only [List.map_toArray, List.map_cons, List.map_nil]); first | done | rfl) ?_; (with_reducible refine (add_len k s _ _ t _ HLN.out ?side1 c1 HC1.out HAD.out).mono ?_); (case side1 => repeat (first | exact PR.out | (with_reducible refine Kd.C_alloc ?_ _) | (with_reducible refine Kd.C_drewN ?_ _) | (with_reducible refine Kd.C_drew ?_))); rintro e w' ⟨rfl, ⟨nd2, rfl⟩⟩; refine ⟨_, rfl, ?_⟩)
    | ((with_reducible refine gate_dst (N := 22) rfl ?_); refine Kd.R_lit (Kd.int .u8) _ 5 ?hg (N := 22) ?hd (xs := ([] : List Int)) (inner := []) (ok := fun _ => True) (okp := fun _ => True) ?hr ?hp (fun _ hk => hk) trivial (Below.refl _ _) (Nat.le_refl _) (by simp) ?_; (case hd => rfl); (case hg => rfl); (case hr => first | (go_simp; done) | (go_simp; rfl)); (case hp => exact (Reps.none _ _)); intro v1 w5 ho hb hg_ hnew_; clear hg_ hnew_; have n1_ := Aside0.mk (Kd.R_lower ho (below_size (by repeat (first | (with_reducible first | exact HB.out | apply below_alloc | apply pw_below_drewN | apply below_drew1 | refine below_set ?_ GE.out) | exact HB.out)))); have n0_ := Aside0.mk (below_step (by repeat (first | (with_reducible first | exact HB.out | apply below_alloc | apply pw_below_drewN | apply below_drew1 | refine below_set ?_ GE.out) | exact HB.out)) hb); have n2_ : Aside0 (Kd.C (Kd.int .u8) w5 (some ⟨ga, 0, none⟩) 13 [x0, x1, x2, x3, x4, x5, x6, x7, x8, x9, x10, x11, x12]) := Aside0.mk (Kd.C_below (by repeat (first | exact RD.out | (with_reducible refine Kd.C_alloc ?_ _) | (with_reducible refine Kd.C_drewN ?_ _) | (with_reducible refine Kd.C_drew ?_))) hb); clear HB RD; have HB := n0_; have HO1 := n1_; have RD := n2_; clear n0_ n1_ n2_ hb ho)
    | ((with_reducible refine gate_builtin (b := .append) (xs := #[.tmp 22, .tmp 23]) rfl ?_); at_builtin; refine Kd.R_append_rows (Kd.int .u8) (w0 := w) w.heap.size rfl (.tmp 22) (.tmp 23) 36 5 (.int .u8 0) 1 rfl Try.underlying36 info5 rfl (by decide) (by omega) v1 [] [x0, x1, x2, x3, x4, x5, x6, x7, x8, x9, x10, x11, x12] _ _ _ (fun _ => True) (fun _ => False) rfl rfl ?aO ?aR (fun _ _ h => h) (fun _ h => h.elim) ?aF ?aB ?aS ?aL ?_; (case aR => repeat (first | exact RD.out | (with_reducible refine Kd.C_alloc ?_ _) | (with_reducible refine Kd.C_drewN ?_ _) | (with_reducible refine Kd.C_drew ?_))); (case aB => exact (by repeat (first | (with_reducible first | exact HB.out | apply below_alloc | apply pw_below_drewN | apply below_drew1 | refine below_set ?_ GE.out) | exact HB.out))); (case aF => exact (fun _ _ => trivial)); (case aO => exact (by (with_reducible repeat (first | apply Kd.R_alloc | apply Kd.R_drewN | apply Kd.R_drew)); exact HO1.out)); (case aS => exact (below_size (by repeat (first | (with_reducible first | exact HB.out | apply below_alloc | apply pw_below_drewN | apply below_drew1 | refine below_set ?_ GE.out) | exact HB.out)))); (case aL => simp); intro v2 w6 ho hb hg hat; have n2_ := Aside0.mk (hb); have n3_ := Aside0.mk (ho); clear HB HO1; have HB := n2_; have HO2 := n3_; clear n2_ n3_; clear ho hb hg hat; obtain ⟨Ao2, co2, eo2⟩ := Kd.R_slice HO2.out; subst eo2)
    | ((with_reducible refine gate_callee (f := 38) rfl ?_); refine goesL_ (some 26) rfl rfl Try.func38 (by kernel_rfl) rfl #[.int .u32 t] rfl (by (try simp only [List.map_toArray, List.map_cons, List.map_nil]); first | done | rfl) ?_; (with_reducible refine (wire_Fixed.calls t _ _ rfl).mono ?_); rintro e w7 ⟨v3, rfl, ho0, hb⟩; refine ⟨_, rfl, ?_⟩; have n0_ := Aside0.mk (Kd.R_elder' (by (with_reducible repeat (first | apply Kd.R_alloc | apply Kd.R_drewN | apply Kd.R_drew)); exact HO2.out) (Kd.R_base ho0) hb); have n1_ := Aside0.mk (Kd.R_lower (Kd.R_new' ho0 (Kd.R_lt (by (with_reducible repeat (first | apply Kd.R_alloc | apply Kd.R_drewN | apply Kd.R_drew)); exact HO2.out))) (below_size (by repeat (first | (with_reducible first | exact HB.out | apply below_alloc | apply pw_below_drewN | apply below_drew1 | refine below_set ?_ GE.out) | exact HB.out)))); have n3_ := Aside0.mk (below_step (by repeat (first | (with_reducible first | exact HB.out | apply below_alloc | apply pw_below_drewN | apply below_drew1 | refine below_set ?_ GE.out) | exact HB.out)) hb); clear HO2 HB; have HO2 := n0_; have HO3 := n1_; have HB := n3_; clear n0_ n1_ n3_ hb ho0; obtain ⟨Ao3, co3, eo3⟩ := Kd.R_slice HO3.out; subst eo3)
    | ((with_reducible refine gate_builtin (b := .append) (xs := #[.tmp 24, .tmp 26]) rfl ?_); at_builtin; refine Kd.R_append_rows (Kd.int .u8) (w0 := w) w.heap.size rfl (.tmp 24) (.tmp 26) 36 5 (.int .u8 0) 1 rfl Try.underlying36 info5 rfl (by decide) (by omega) (.slice Ao2 (([] : List Int) ++ [x0, x1, x2, x3, x4, x5, x6, x7, x8, x9, x10, x11, x12]).length co2) (([] : List Int) ++ [x0, x1, x2, x3, x4, x5, x6, x7, x8, x9, x10, x11, x12]) [t % 256, t / 256 % 256, t / 65536 % 256, t / 16777216 % 256] _ _ _ (fun k_ => some k_ ≠ (.slice Ao3 ([t % 256, t / 256 % 256, t / 65536 % 256, t / 16777216 % 256] : List Int).length co3 : Value).ownBlock) (fun _ => False) rfl rfl ?aO ?aR (fun _ _ h => h) (fun _ h => h.elim) ?aF ?aB ?aS ?aL ?_; (case aR => repeat (first | exact (Kd.R_reads' HO3.out).2.2 | (with_reducible refine Kd.C_alloc ?_ _) | (with_reducible refine Kd.C_drewN ?_ _) | (with_reducible refine Kd.C_drew ?_))); (case aB => exact (by repeat (first | (with_reducible first | exact HB.out | apply below_alloc | apply pw_below_drewN | apply below_drew1 | refine below_set ?_ GE.out) | exact HB.out))); (case aF => exact (fun k_ hk => Kd.fresh' (Kd.R_lt (by (with_reducible repeat (first | apply Kd.R_alloc | apply Kd.R_drewN | apply Kd.R_drew)); exact HO3.out)) k_ hk)); (case aO => exact (by (with_reducible repeat (first | apply Kd.R_alloc | apply Kd.R_drewN | apply Kd.R_drew)); exact Kd.R_mono HO2.out (fun _ hk => hk.2))); (case aS => exact (below_size (by repeat (first | (with_reducible first | exact HB.out | apply below_alloc | apply pw_below_drewN | apply below_drew1 | refine below_set ?_ GE.out) | exact HB.out)))); (case aL => simp); intro v4 w8 ho hb hg hat; have n2_ := Aside0.mk (hb); have n3_ := Aside0.mk (ho); clear HB HO2 HO3; have HB := n2_; have HO4 := n3_; clear n2_ n3_; clear ho hb hg hat))
  go_ret2
  exact ⟨_, rfl, Kd.R_mono HO4.out (fun _ _ => trivial), by repeat (first | (with_reducible first | exact HB.out | apply below_alloc | apply pw_below_drewN | apply below_drew1 | refine below_set ?_ GE.out) | exact HB.out)⟩
set_option maxHeartbeats 1000000 in
set_option maxRecDepth 100000 in
theorem pack_not (a0 a1 a2 : Int) (A1 : Option Addr) (c1 n : Nat) (w : World) (hR : oob_Right.f a0 a1 a2 = some false) :
    Calls Try.prog 22 #[.agg #[.int .i64 a0, .int .i64 a1, .int .i64 a2], .slice A1 n c1] w fun e w' => ∃ v0_ : Value, e = .returned (.tuple #[v0_, .int .i64 1]) ∧ Kd.R (Kd.int .u8) 5 w' w.heap.size (fun _ => True) v0_ [] ∧ Below w.heap.size w w' := by
  have HRT := Aside0.mk hR
  clear hR
  have hu40 := Try.underlying40
  have HB := Aside0.mk (Below.refl w.heap.size w)
  go_enter Try.func22, Try.ntmps22
  go_wp2_with (first
    | ((with_reducible refine gate_dst (N := 2) rfl ?_); refine box_event ?hg (N := 2) ?hd (cs := #[.int .i64 a0, .int .i64 a1, .int .i64 a2]) (t := 40) ?hr ?_; (case hd => rfl); (case hg => rfl); (case hr => first | (go_simp; done) | (go_simp; rfl)); intro gb hg w1 hbox hb; have n0_ := Aside0.mk (below_step (by repeat (first | (with_reducible first | exact HB.out | apply below_alloc | apply pw_below_drewN | apply below_drew1 | refine below_set ?_ GE.out) | exact HB.out)) hb); have BK := Aside0.mk hbox; have GE := Aside0.mk (by rw [hg]; exact (below_size (by repeat (first | (with_reducible first | exact HB.out | apply below_alloc | apply pw_below_drewN | apply below_drew1 | refine below_set ?_ GE.out) | exact HB.out))) : w.heap.size ≤ gb); clear HB; have HB := n0_; clear n0_ hb hbox hg; have hc0 : w1.cell? ⟨gb, 0, none⟩ = some (.int .i64 a0) := (blk_cell BK.out 0).trans rfl; have hc1 : w1.cell? ⟨gb, 1, none⟩ = some (.int .i64 a1) := (blk_cell BK.out 1).trans rfl; have hc2 : w1.cell? ⟨gb, 2, none⟩ = some (.int .i64 a2) := (blk_cell BK.out 2).trans rfl)
    | ((with_reducible refine gate_callee (f := 30) rfl ?_); refine goesL_ (some 9) rfl rfl Try.func30 (by kernel_rfl) rfl #[.agg #[.int .i64 a0, .int .i64 a1, .int .i64 a2]] rfl (by (try simp only [List.map_toArray, List.map_cons, List.map_nil]); first | done | rfl) ?_; (with_reducible refine (oob_Right.calls a0 a1 a2 false _ HRT.out).mono ?_); rintro e w2 ⟨rfl, hb⟩; refine ⟨_, rfl, ?_⟩; have n1_ := Aside0.mk (below_step (by repeat (first | (with_reducible first | exact HB.out | apply below_alloc | apply pw_below_drewN | apply below_drew1 | refine below_set ?_ GE.out) | exact HB.out)) hb); clear BK HB hc0 hc1 hc2; have HB := n1_; clear n1_ hb))
  go_ret2
  exact ⟨_, rfl, Kd.R_nil _ _ _ _ _, by repeat (first | (with_reducible first | exact HB.out | apply below_alloc | apply pw_below_drewN | apply below_drew1 | refine below_set ?_ GE.out) | exact HB.out)⟩
set_option maxHeartbeats 1000000 in
set_option maxRecDepth 100000 in
theorem pack_len (a0 a1 a2 : Int) (A1 : Option Addr) (c1 n : Nat) (w : World) (hR : oob_Right.f a0 a1 a2 = some true) (hl : ¬ n = 16) :
    Calls Try.prog 22 #[.agg #[.int .i64 a0, .int .i64 a1, .int .i64 a2], .slice A1 n c1] w fun e w' => ∃ v0_ : Value, e = .returned (.tuple #[v0_, .int .i64 1]) ∧ Kd.R (Kd.int .u8) 5 w' w.heap.size (fun _ => True) v0_ [] ∧ Below w.heap.size w w' := by
  have HRT := Aside0.mk hR
  clear hR
  have h9 : ¬ ((n : Int) = 16) := by omega
  have hd : ((n : Int) != 16) = true := bne_iff_ne.mpr h9
  clear h9 hl
  have hu40 := Try.underlying40
  have HB := Aside0.mk (Below.refl w.heap.size w)
  go_enter Try.func22, Try.ntmps22
  go_wp2_with (first
    | ((with_reducible refine gate_dst (N := 2) rfl ?_); refine box_event ?hg (N := 2) ?hd (cs := #[.int .i64 a0, .int .i64 a1, .int .i64 a2]) (t := 40) ?hr ?_; (case hd => rfl); (case hg => rfl); (case hr => first | (go_simp; done) | (go_simp; rfl)); intro gb hg w1 hbox hb; have n0_ := Aside0.mk (below_step (by repeat (first | (with_reducible first | exact HB.out | apply below_alloc | apply pw_below_drewN | apply below_drew1 | refine below_set ?_ GE.out) | exact HB.out)) hb); have BK := Aside0.mk hbox; have GE := Aside0.mk (by rw [hg]; exact (below_size (by repeat (first | (with_reducible first | exact HB.out | apply below_alloc | apply pw_below_drewN | apply below_drew1 | refine below_set ?_ GE.out) | exact HB.out))) : w.heap.size ≤ gb); clear HB; have HB := n0_; clear n0_ hb hbox hg; have hc0 : w1.cell? ⟨gb, 0, none⟩ = some (.int .i64 a0) := (blk_cell BK.out 0).trans rfl; have hc1 : w1.cell? ⟨gb, 1, none⟩ = some (.int .i64 a1) := (blk_cell BK.out 1).trans rfl; have hc2 : w1.cell? ⟨gb, 2, none⟩ = some (.int .i64 a2) := (blk_cell BK.out 2).trans rfl)
    | ((with_reducible refine gate_callee (f := 30) rfl ?_); refine goesL_ (some 9) rfl rfl Try.func30 (by kernel_rfl) rfl #[.agg #[.int .i64 a0, .int .i64 a1, .int .i64 a2]] rfl (by (try simp only [List.map_toArray, List.map_cons, List.map_nil]); first | done | rfl) ?_; (with_reducible refine (oob_Right.calls a0 a1 a2 true _ HRT.out).mono ?_); rintro e w2 ⟨rfl, hb⟩; refine ⟨_, rfl, ?_⟩; have n1_ := Aside0.mk (below_step (by repeat (first | (with_reducible first | exact HB.out | apply below_alloc | apply pw_below_drewN | apply below_drew1 | refine below_set ?_ GE.out) | exact HB.out)) hb); clear BK HB hc0 hc1 hc2; have HB := n1_; clear n1_ hb))
  go_ret2
  exact ⟨_, rfl, Kd.R_nil _ _ _ _ _, by repeat (first | (with_reducible first | exact HB.out | apply below_alloc | apply pw_below_drewN | apply below_drew1 | refine below_set ?_ GE.out) | exact HB.out)⟩
def oob_Pack.f (k : Nat) (a0_0 a0_1 a0_2 : Int) (l1 : List Int) : Option (List Int × Int) := (oob_Right.f a0_0 a0_1 a0_2).bind fun t => if t = true then (if l1.length = 16 then ((crc_Sum.f k (oob_laidL a0_0 a0_1 a0_2)).bind fun s => (crc_Add.f k s l1).bind fun u => some (oob_laidL a0_0 a0_1 a0_2 ++ [u % 256, u / 256 % 256, u / 65536 % 256, u / 16777216 % 256], 0)) else some ([], 1)) else some ([], 1)
theorem oob_Pack.mono : ∀ a0 a1 a2 a3 k, LeO (oob_Pack.f k a0 a1 a2 a3) (oob_Pack.f (k + 1) a0 a1 a2 a3) := by
  intro a0 a1 a2 a3 k r h
  unfold oob_Pack.f at h ⊢
  obtain ⟨t, ht, h⟩ := Option.bind_eq_some_iff.mp h
  rw [ht]
  simp only [Option.bind_some]
  split at h
  · rename_i c
    rw [if_pos c]
    split at h
    · rename_i c2
      rw [if_pos c2]
      obtain ⟨s, hs, h⟩ := Option.bind_eq_some_iff.mp h
      obtain ⟨u, hu, h⟩ := Option.bind_eq_some_iff.mp h
      rw [crc_Sum.mono _ _ _ hs, Option.bind_some, crc_Add.mono _ _ _ _ hu, Option.bind_some]
      exact h
    · rename_i c2
      rw [if_neg c2]
      exact h
  · rename_i c
    rw [if_neg c]
    exact h
theorem oob_Pack.calls (k : Nat) (a0_0 : Int) (a0_1 : Int) (a0_2 : Int) (A1 : Option Addr) (c1 : Nat) (l1 : List Int) (r1 : List Int) (r2 : Int) (w : World) (hr1 : Kd.C (Kd.int .u8) w A1 l1.length l1) (hc1 : l1.length ≤ c1) (h : oob_Pack.f k a0_0 a0_1 a0_2 l1 = some (r1, r2)) :
    Calls Try.prog 22 #[.agg #[.int .i64 a0_0, .int .i64 a0_1, .int .i64 a0_2], .slice A1 l1.length c1] w fun e w' => ∃ v0_ : Value, e = .returned (.tuple #[v0_, .int .i64 r2]) ∧ Kd.R (Kd.int .u8) 5 w' w.heap.size (fun _ => True) v0_ r1 ∧ Below w.heap.size w w' := by
  unfold oob_Pack.f at h
  obtain ⟨t, ht, h⟩ := Option.bind_eq_some_iff.mp h
  cases t
  · rw [if_neg (by decide)] at h
    cases h
    exact pack_not a0_0 a0_1 a0_2 A1 c1 _ w ht
  · rw [if_pos rfl] at h
    by_cases hl : l1.length = 16
    · rw [if_pos hl] at h
      obtain ⟨s, hs, h⟩ := Option.bind_eq_some_iff.mp h
      obtain ⟨u, hu, h⟩ := Option.bind_eq_some_iff.mp h
      cases h
      rw [hl] at hr1 hc1 ⊢
      exact pack_ok k a0_0 a0_1 a0_2 A1 c1 l1 s u _ _ _ _ _ _ _ _ _ _ _ _ _ w hr1 hc1 ht hl (fun w => oob_laid.walk a0_0 a0_1 a0_2 w) hs hu
    · rw [if_neg hl] at h
      cases h
      exact pack_len a0_0 a0_1 a0_2 A1 c1 _ w ht hl


/-! ### page_pads: function 23 -/
theorem page_lit1 {P : Program} {ops : Array Oper} {rest : List Oper} {o : Oper} {a : Act} {Q : Exit → Act → World → Prop} {α : Type} (d : Kd α) {W : World} (base e : Nat) (hgd : o.guard = none) {N : Tmp} (_hd : o.dst = some N) {xs : List α} {inner : List Value} {ok : Nat → Prop} (okj : Nat → Nat → Prop)
    (hrun : (execOp a.eval o).run P W = .ok (.value (.slice (some ⟨W.heap.size, 0, none⟩) xs.length xs.length)) (W.alloc (.cells inner.toArray e)))
    (hl : inner.length = xs.length * d.sz) (hrep : ∀ j x, xs[j]? = some x → d.M W base (okj j) x ((inner.drop (j * d.sz)).take d.sz)) (hap : ∀ i j k, okj i k → okj j k → i = j) (hok : ∀ j k, okj j k → ok k) (hfresh : ok W.heap.size) (hbase : base ≤ W.heap.size) (hm : xs.length ≤ 9223372036854775807)
    (h : ∀ v1 w1, Kd.S d e w1 base ok v1 xs → Below W.heap.size W w1 → (∀ k, v1.ownBlock = some k → W.heap.size ≤ k) → (∃ b, v1.ownBlock = some b ∧ W.heap.size ≤ b) → wpList P ops Q rest (a.put o.dst v1) w1) : wpList P ops Q (o :: rest) a W := by
  obtain ⟨f, hr⟩ := Kd.reps_tag (d := d) (w := W) (base := base) (ok := ok) okj hap hok hl hrep
  refine Kd.event_run hgd hrun (h _ _ ⟨f, ⟨fun k hk => ?_, inner, ?_, ?_⟩⟩ (below_alloc (Below.refl _ _) _) (fun k hk => by simp [Value.ownBlock] at hk; omega) ⟨W.heap.size, by simp [Value.ownBlock], Nat.le_refl _⟩)
  · have : W.heap.size = k := by simpa [Value.ownBlock] using hk
    subst this
    exact hfresh
  · rw [List.length_zipIdx]
    show (W.alloc (.cells inner.toArray e)).ownsRow base e d.sz (.slice (some ⟨W.heap.size, 0, none⟩) xs.length xs.length) xs.length inner
    have h2 := World.ownsRow_lit (base := base) (e := e) (size := d.sz) W inner.toArray xs.length hbase (by simpa [maxLen] using hm) (by simpa using hl)
    simpa using h2
  · refine hr.imp_ (fun p c hp => (Kd.tag f d).M_mono (fun k hk => ⟨hk.1, fun he => ?_⟩) (Kd.M_below ((Kd.tag f d).M_bound hp) (below_alloc (Below.refl _ _) _)))
    have h3 : k = W.heap.size := by simpa [Value.ownBlock] using he
    have := hk.2.2.1
    omega
def page_pads.f : Option Int := some 0
set_option maxHeartbeats 1000000 in
set_option maxRecDepth 100000 in
theorem page_pads.calls (r : Int) (w : World) (h : page_pads.f = some r) : Calls Try.prog 23 #[] w fun e w' => e = .returned (.agg #[.func (.func 39) #[] #[]]) ∧ Below w.heap.size w w' := by
  have hu56 := Try.underlying56
  have HB := Aside0.mk (Below.refl w.heap.size w)
  go_enter Try.func23, Try.ntmps23
  go_wp2_with (first
    | ((with_reducible refine gate_dst (N := 0) rfl ?_); refine box_event ?hg (N := 0) ?hd (cs := #[.nilFunc]) (t := 56) ?hr ?_; (case hd => rfl); (case hg => rfl); (case hr => first | (go_simp; done) | (go_simp; rfl)); intro g4 hg w1 hbox hb; have n0_ := Aside0.mk (below_step (by repeat (first | (with_reducible first | exact HB.out | apply below_alloc | apply pw_below_drewN | apply below_drew1) | exact HB.out)) hb); have BK := Aside0.mk hbox; have GE := Aside0.mk (Nat.le_of_eq hg.symm : w.heap.size ≤ g4); clear HB; have HB := n0_; clear n0_ hb hbox hg; have hc0 : w1.cell? ⟨g4, 0, none⟩ = some (.nilFunc) := (blk_cell BK.out 0).trans rfl; have hf0 := blk_frozen BK.out 0))
  refine bodyPost_ret (results_single rfl (Vals.cell g4 56 _ _ _ rfl (blk_put (cs' := #[.func (.func 39) #[] #[]]) BK.out 0 (.func (.func 39) #[] #[]) rfl) Try.underlying56 rfl (by kernel_rfl) .nil)) rfl ⟨rfl, ?_⟩
  exact below_set HB.out GE.out


/-! ### page_filler_fill: function 24 -/
def page_one.f (k : Nat) : Option (List Int × List Int) := (oob_Pack.f k 3 0 0 (List.replicate 16 0)).bind fun p => some (List.replicate 16 0, p.1)
theorem page_one.mono : ∀ k, LeO (page_one.f k) (page_one.f (k + 1)) := by
  intro k r h
  unfold page_one.f at h ⊢
  obtain ⟨t, ht, h⟩ := Option.bind_eq_some_iff.mp h
  rw [oob_Pack.mono _ _ _ _ _ _ ht, Option.bind_some]
  exact h
set_option maxHeartbeats 1000000 in
set_option maxRecDepth 100000 in
theorem page_one.calls (k : Nat) (r1 r2 : List Int) (w : World) (h : page_one.f k = some (r1, r2)) :
    Calls Try.prog 39 #[] w fun e w' => ∃ v0_ v1_ : Value, e = .returned (.tuple #[v0_, v1_]) ∧ Kd.R (Kd.int .u8) 5 w' w.heap.size (fun k_ => some k_ ≠ v1_.ownBlock) v0_ r1 ∧ Kd.R (Kd.int .u8) 5 w' w.heap.size (fun k_ => some k_ ≠ v0_.ownBlock) v1_ r2 ∧ Below w.heap.size w w' := by
  unfold page_one.f at h
  obtain ⟨⟨t1, t2⟩, ht, h⟩ := Option.bind_eq_some_iff.mp h
  obtain ⟨L, hL⟩ : ∃ L : List Int, L = List.replicate 16 0 := ⟨_, rfl⟩
  rw [← hL] at ht h
  have h16 : L.length = 16 := by rw [hL]; rfl
  have NL := Aside0.mk hL
  have HT := Aside0.mk ht
  have N16 := Aside0.mk h16
  clear hL ht h16
  simp only [Option.some.injEq, Prod.mk.injEq] at h
  obtain ⟨rfl, rfl⟩ := h
  have hu40 := Try.underlying40
  have HB := Aside0.mk (Below.refl w.heap.size w)
  go_enter Try.func39, Try.ntmps39
  go_wp2_with (first
    | ((with_reducible refine gate_dst (N := 5) rfl ?_); refine Kd.R_make (Kd.int .u8) _ 5 rfl (N := 5) rfl 36 _ _ rfl 16 rfl rfl Try.underlying36 (.int .u8 0) 1 info5 rfl (by decide) (by omega) 0 (ok := fun _ => True) (okp := fun _ => True) rfl (fun _ hk => hk) trivial (by omega) (by omega) (Below.refl _ _) (Nat.le_refl _) ?_; intro v1 w1 ho hb hg_ hnew_; clear hg_ hnew_; (first | rw [← NL.out] at ho | (simp only [Int.reduceToNat] at ho; rw [← NL.out] at ho)); have n1_ := Aside0.mk (Kd.R_lower ho (below_size (by repeat (first | (with_reducible first | exact HB.out | apply below_alloc | apply pw_below_drewN | apply below_drew1) | exact HB.out)))); have n0_ := Aside0.mk (below_step (by repeat (first | (with_reducible first | exact HB.out | apply below_alloc | apply pw_below_drewN | apply below_drew1) | exact HB.out)) hb); clear HB; have HB := n0_; have HO1 := n1_; clear n0_ n1_ hb ho; obtain ⟨A1, c1, e1⟩ := Kd.R_slice HO1.out; subst e1)
    | ((with_reducible refine gate_dst (N := 9) rfl ?_); refine goesL_ (some 9) rfl rfl Try.func22 (by kernel_rfl) rfl #[.agg #[.int .i64 3, .int .i64 0, .int .i64 0], .slice A1 L.length c1] rfl (by (try simp only [List.map_toArray, List.map_cons, List.map_nil]); first | done | rfl) ?_; (with_reducible refine (oob_Pack.calls k 3 0 0 A1 c1 L t1 t2 _ ?side1 ?side2 HT.out).mono ?_); (case side1 => exact (by (with_reducible repeat (first | (refine Kd.C_alloc ?_ _) | (refine Kd.C_drewN ?_ _) | (refine Kd.C_drew ?_))); exact (Kd.R_reads' HO1.out).2.2)); (case side2 => exact (Kd.R_reads' HO1.out).2.1); rintro e w2 ⟨v2, rfl, ho0, hb⟩; refine ⟨_, rfl, ?_⟩; have n0_ := Aside0.mk (Kd.R_elder' (by (with_reducible repeat (first | apply Kd.R_alloc | apply Kd.R_drewN | apply Kd.R_drew)); exact HO1.out) (Kd.R_base ho0) hb); have n1_ := Aside0.mk (Kd.R_lower (Kd.R_new' ho0 (Kd.R_lt (by (with_reducible repeat (first | apply Kd.R_alloc | apply Kd.R_drewN | apply Kd.R_drew)); exact HO1.out))) (below_size (by repeat (first | (with_reducible first | exact HB.out | apply below_alloc | apply pw_below_drewN | apply below_drew1) | exact HB.out)))); have n3_ := Aside0.mk (below_step (by repeat (first | (with_reducible first | exact HB.out | apply below_alloc | apply pw_below_drewN | apply below_drew1) | exact HB.out)) hb); clear HO1 HB; have HO1 := n0_; have HO2 := n1_; have HB := n3_; clear n0_ n1_ n3_ hb ho0))
  go_ret2
  exact ⟨_, _, rfl, by (with_reducible repeat (first | apply Kd.R_alloc | apply Kd.R_drewN | apply Kd.R_drew)); exact Kd.R_mono HO1.out (fun _ hk => hk.2), by (with_reducible repeat (first | apply Kd.R_alloc | apply Kd.R_drewN | apply Kd.R_drew)); exact Kd.R_mono HO2.out (fun _ hk => hk.2), by repeat (first | (with_reducible first | exact HB.out | apply below_alloc | apply pw_below_drewN | apply below_drew1) | exact HB.out)⟩
def page_filler_fill.l0 : Nat → Int → List (List Int) → List (List Int) → Option (List (List Int) × List (List Int) × Int)
  | 0, _, _, _ => none
  | k + 1, n, x1, x2 => if (x1.length : Int) < n then ((page_one.f k).bind fun p => (if x1.length < 5864062014805 then (if x2.length < 5864062014805 then page_filler_fill.l0 k n (x1 ++ [p.1]) (x2 ++ [p.2]) else none) else none)) else some (x1, x2, 0)
def page_filler_fill.f (k : Nat) (_z n : Int) (l1 l2 : List (List Int)) : Option (List (List Int) × List (List Int) × Int) := page_filler_fill.l0 k n l1 l2
theorem page_filler_fill.mono_l : ∀ k n x1 x2, LeO (page_filler_fill.l0 k n x1 x2) (page_filler_fill.l0 (k + 1) n x1 x2) := by
  intro k
  induction k with
  | zero => intro n x1 x2 r h; simp [page_filler_fill.l0] at h
  | succ k ih =>
    intro n x1 x2 r h
    rw [page_filler_fill.l0] at h ⊢
    by_cases c : (x1.length : Int) < n
    · rw [if_pos c] at h ⊢
      obtain ⟨t, ht, h⟩ := Option.bind_eq_some_iff.mp h
      rw [page_one.mono _ _ ht, Option.bind_some]
      by_cases c2 : x1.length < 5864062014805
      · rw [if_pos c2] at h ⊢
        by_cases c3 : x2.length < 5864062014805
        · rw [if_pos c3] at h ⊢
          exact ih _ _ _ _ h
        · rw [if_neg c3] at h
          exact absurd h (by simp)
      · rw [if_neg c2] at h
        exact absurd h (by simp)
    · rw [if_neg c] at h ⊢
      exact h
theorem page_filler_fill.mono : ∀ z n l1 l2 k, LeO (page_filler_fill.f k z n l1 l2) (page_filler_fill.f (k + 1) z n l1 l2) := fun _ n l1 l2 k => page_filler_fill.mono_l k n l1 l2
set_option maxHeartbeats 2000000 in
set_option maxRecDepth 100000 in
theorem page_filler_fill.calls (k : Nat) (z n : Int) (u1 u2 : Value) (l1 l2 r1 r2 : List (List Int)) (r3 : Int) (w0 w : World) (hB : Below w0.heap.size w0 w) (ho1 : Kd.S (Kd.slice 5 (Kd.int .u8)) 36 w w0.heap.size (fun k_ => some k_ ≠ (u2 : Value).ownBlock) u1 l1) (ho2 : Kd.S (Kd.slice 5 (Kd.int .u8)) 36 w w0.heap.size (fun k_ => some k_ ≠ (u1 : Value).ownBlock) u2 l2) (h : page_filler_fill.f k z n l1 l2 = some (r1, r2, r3)) :
    Calls Try.prog 24 #[.agg #[.func (.func 39) #[] #[]], .int .i64 n, u1, u2] w fun e w' => ∃ v0_ v1_ : Value, e = .returned (.tuple #[v0_, v1_, .int .i64 r3]) ∧ Kd.S (Kd.slice 5 (Kd.int .u8)) 36 w' w0.heap.size (fun k_ => some k_ ≠ (v1_ : Value).ownBlock) v0_ r1 ∧ Kd.S (Kd.slice 5 (Kd.int .u8)) 36 w' w0.heap.size (fun k_ => some k_ ≠ (v0_ : Value).ownBlock) v1_ r2 ∧ Below w0.heap.size w0 w' := by
  have HO1 := Aside0.mk ho1
  have HO2 := Aside0.mk ho2
  have HB := Aside0.mk hB
  have H' := Aside0.mk (show page_filler_fill.l0 k n l1 l2 = some (r1, r2, r3) from h)
  clear ho1 ho2 hB h
  have hu56 := Try.underlying56
  go_enter Try.func24, Try.ntmps24
  go_wp2_with (first
    | ((with_reducible refine gate_dst (N := 4) rfl ?_); refine box_event ?hg (N := 4) ?hd (cs := #[.func (.func 39) #[] #[]]) (t := 56) ?hr ?_; (case hd => rfl); (case hg => rfl); (case hr => first | (go_simp; done) | (go_simp; rfl)); intro g4 hg w1 hbox hb; have n1_ := Aside0.mk (Kd.S_below HO1.out hb); have n2_ := Aside0.mk (Kd.S_below HO2.out hb); have n0_ := Aside0.mk (below_then HB.out HB.out.size hb); have BK := Aside0.mk hbox; clear HB HO1 HO2; have HB := n0_; have HO1 := n1_; have HO2 := n2_; clear n0_ n1_ n2_ hb hbox hg))
  go_loopg [2, 3] k (fun kq v2 v3 w' => ∃ (x1 x2 : List (List Int)), Aside0 (page_filler_fill.l0 kq n x1 x2 = some (r1, r2, r3)) ∧ Aside0 (kq ≤ k) ∧ Aside0 (Kd.S (Kd.slice 5 (Kd.int .u8)) 36 w' w0.heap.size (fun k_ => some k_ ≠ (v3 : Value).ownBlock) v2 x1) ∧ Aside0 (Kd.S (Kd.slice 5 (Kd.int .u8)) 36 w' w0.heap.size (fun k_ => some k_ ≠ (v2 : Value).ownBlock) v3 x2) ∧ Aside0 (w'.heap[g4]? = some (.cells #[.func (.func 39) #[] #[]] 56 (0, 0))) ∧ Aside0 (Below w0.heap.size w0 w'))
  case atStart => exact ⟨l1, l2, H', ⟨Nat.le_refl _⟩, ⟨by (with_reducible repeat (first | apply Kd.S_alloc | apply Kd.S_drewN | apply Kd.S_drew)); exact HO1.out⟩, ⟨by (with_reducible repeat (first | apply Kd.S_alloc | apply Kd.S_drewN | apply Kd.S_drew)); exact HO2.out⟩, ⟨(by (with_reducible repeat (first | refine blk_drewN ?_ _ | refine blk_drew ?_ | refine blk_alloc ?_ _)); exact BK.out)⟩, ⟨by repeat (first | (with_reducible first | exact HB.out | apply below_alloc | apply pw_below_drewN | apply below_drew1) | exact HB.out)⟩⟩
  case round =>
    clear H'
    obtain ⟨x1, x2, HA, HK1, HO_2, HO_3, BK, HB⟩ := hrel
    cases gk with
    | zero => exact absurd HA.out (by simp [page_filler_fill.l0])
    | succ k1 =>
      have H := HA.out
      clear HA
      simp only [page_filler_fill.l0] at H
      by_cases c1 : (x1.length : Int) < n
      · rw [if_pos c1] at H
        have c1b : decide ((x1.length : Int) < n) = true := decide_eq_true c1
        clear c1
        obtain ⟨⟨t1, t2⟩, ht, H⟩ := Option.bind_eq_some_iff.mp H
        have HT := Aside0.mk ht
        clear ht
        by_cases c2 : x1.length < 5864062014805
        · rw [if_pos c2] at H
          have L1 := Aside0.mk c2
          clear c2
          by_cases c3 : x2.length < 5864062014805
          · rw [if_pos c3] at H
            have L2 := Aside0.mk c3
            clear c3
            have H' := Aside0.mk H
            clear H
            obtain ⟨A2, cp2, e2⟩ := Kd.S_slice HO_2.out
            subst e2
            have hc0 : wr.cell? ⟨g4, 0, none⟩ = some (.func (.func 39) #[] #[]) := (blk_cell BK.out 0).trans rfl
            go_wp2_with (first
              | (go_at_call 39; (with_reducible refine (page_one.calls k1 t1 t2 _ HT.out).mono ?_); rintro e w2 ⟨va, vb, rfl, hoa, hob, hb⟩; have hla := Kd.R_base hoa; have hlb := Kd.R_base hob; have n2_ : Aside0 (Kd.S (Kd.slice 5 (Kd.int .u8)) 36 w2 w0.heap.size (fun k_ => some k_ ≠ (u3 : Value).ownBlock ∧ some k_ ≠ (va : Value).ownBlock ∧ some k_ ≠ (vb : Value).ownBlock) (.slice A2 x1.length cp2) x1) := Aside0.mk (Kd.S_mono (Kd.S_old (by (with_reducible repeat (first | apply Kd.S_alloc | apply Kd.S_drewN | apply Kd.S_drew)); exact HO_2.out) hb) (fun k_ hk => ⟨hk.1, fun e_ => (by have := hla k_ e_.symm; have := hk.2; omega), fun e_ => (by have := hlb k_ e_.symm; have := hk.2; omega)⟩)); have n3_ : Aside0 (Kd.S (Kd.slice 5 (Kd.int .u8)) 36 w2 w0.heap.size (fun k_ => some k_ ≠ ((.slice A2 x1.length cp2) : Value).ownBlock ∧ some k_ ≠ (va : Value).ownBlock ∧ some k_ ≠ (vb : Value).ownBlock) u3 x2) := Aside0.mk (Kd.S_mono (Kd.S_old (by (with_reducible repeat (first | apply Kd.S_alloc | apply Kd.S_drewN | apply Kd.S_drew)); exact HO_3.out) hb) (fun k_ hk => ⟨hk.1, fun e_ => (by have := hla k_ e_.symm; have := hk.2; omega), fun e_ => (by have := hlb k_ e_.symm; have := hk.2; omega)⟩)); have na_ := Aside0.mk (Kd.R_lower (Kd.R_new' (Kd.R_new' hoa (Kd.S_lt (by (with_reducible repeat (first | apply Kd.S_alloc | apply Kd.S_drewN | apply Kd.S_drew)); exact HO_2.out))) (Kd.S_lt (by (with_reducible repeat (first | apply Kd.S_alloc | apply Kd.S_drewN | apply Kd.S_drew)); exact HO_3.out))) HB.out.size); have nb_ := Aside0.mk (Kd.R_lower (Kd.R_new' (Kd.R_new' hob (Kd.S_lt (by (with_reducible repeat (first | apply Kd.S_alloc | apply Kd.S_drewN | apply Kd.S_drew)); exact HO_2.out))) (Kd.S_lt (by (with_reducible repeat (first | apply Kd.S_alloc | apply Kd.S_drewN | apply Kd.S_drew)); exact HO_3.out))) HB.out.size); have n4_ := Aside0.mk (blk_below (g := g4) (o := .cells #[.func (.func 39) #[] #[]] 56 (0, 0)) (by (with_reducible repeat (first | refine blk_drewN ?_ _ | refine blk_drew ?_ | refine blk_alloc ?_ _)); exact BK.out) hb); have n5_ := Aside0.mk (below_then HB.out HB.out.size hb); clear HO_2 HO_3 BK HB hoa hob hb hla hlb hc0; have HO_2 := n2_; have HO_3 := n3_; have HOA := na_; have HOB := nb_; have BK := n4_; have HB := n5_; clear n2_ n3_ na_ nb_ n4_ n5_; obtain ⟨Aa, ca, ea⟩ := Kd.R_slice HOA.out; subst ea; obtain ⟨Ab, cb, eb⟩ := Kd.R_slice HOB.out; subst eb)
              | ((with_reducible refine gate_builtin (b := .append) (xs := #[.tmp 23, .tmp 25]) rfl ?_); at_builtin; refine Kd.S_append (Kd.slice 5 (Kd.int .u8)) (w0 := w0) w0.heap.size rfl (.tmp 23) (.tmp 25) 25 36 (.slice none 0 0) 24 rfl Try.underlying25 info36 rfl (by decide) (by omega) (.slice A2 x1.length cp2) x1 t1 [.slice Aa t1.length ca] (fun k_ => some k_ ≠ (u3 : Value).ownBlock ∧ some k_ ≠ ((.slice Ab t2.length cb) : Value).ownBlock) (fun k_ => some k_ = (.slice Aa t1.length ca : Value).ownBlock) rfl rfl ?aP ?aK ?aF ?aO ?aB ?aS ?aL ?_; (case aP => exact Kd.M_row (Kd.R_tight rfl HOA.out)); (case aK => exact fun k_ hk => ⟨⟨(HOA.out.1 k_ hk.symm).2, (HOA.out.1 k_ hk.symm).1.1⟩, (HOA.out.1 k_ hk.symm).1.2⟩); (case aF => exact fun k_ hk => ⟨Kd.fresh' (Kd.S_lt HO_3.out) k_ hk, Kd.fresh' (Kd.R_lt HOB.out) k_ hk⟩); (case aO => exact Kd.S_mono HO_2.out (fun _ hk => ⟨⟨hk.1, hk.2.2⟩, hk.2.1⟩)); (case aB => exact HB.out); (case aS => exact HB.out.size); (case aL => have := L1.out; omega); intro v4 w3 ho hb hg hat; have n3_ := Aside0.mk (Kd.S_after (ok := (fun k_ => some k_ ≠ ((.slice Aa t1.length ca) : Value).ownBlock ∧ some k_ ≠ ((.slice Ab t2.length cb) : Value).ownBlock)) (Kd.S_mono HO_3.out (fun _ hk => ⟨⟨hk.2.1, hk.2.2⟩, hk.1⟩)) hg hat); have nb_ := Aside0.mk (Kd.R_after (ok := (fun k_ => some k_ ≠ (u3 : Value).ownBlock)) (Kd.R_mono HOB.out (fun _ hk => ⟨hk.2, hk.1.2⟩)) hg hat); have n4_ := Aside0.mk (blk_grown (g := g4) (o := .cells #[.func (.func 39) #[] #[]] 56 (0, 0)) (by (with_reducible repeat (first | refine blk_drewN ?_ _ | refine blk_drew ?_ | refine blk_alloc ?_ _)); exact BK.out) hg (Kd.S_ne HO_2.out BK.out (by decide))); clear HO_2 HO_3 HOA HOB BK HB; have HO_2 := Aside0.mk ho; have HO_3 := n3_; have HOB := nb_; have BK := n4_; have HB := Aside0.mk hb; clear n3_ nb_ n4_ ho hb hg hat)
              | ((with_reducible refine gate_builtin (b := .append) (xs := #[.tmp 27, .tmp 29]) rfl ?_); at_builtin; refine Kd.S_append (Kd.slice 5 (Kd.int .u8)) (w0 := w0) w0.heap.size rfl (.tmp 27) (.tmp 29) 25 36 (.slice none 0 0) 24 rfl Try.underlying25 info36 rfl (by decide) (by omega) u3 x2 t2 [.slice Ab t2.length cb] (fun k_ => some k_ ≠ (v4 : Value).ownBlock) (fun k_ => some k_ = (.slice Ab t2.length cb : Value).ownBlock) rfl rfl ?aP ?aK ?aF ?aO ?aB ?aS ?aL ?_; (case aP => exact Kd.M_row (Kd.R_tight rfl HOB.out)); (case aK => exact fun k_ hk => ⟨(HOB.out.1 k_ hk.symm).2, (HOB.out.1 k_ hk.symm).1⟩); (case aF => exact fun k_ hk => Kd.fresh' (Kd.S_lt HO_2.out) k_ hk); (case aO => exact Kd.S_mono HO_3.out (fun _ hk => ⟨hk.2, hk.1.2⟩)); (case aB => exact HB.out); (case aS => exact HB.out.size); (case aL => have := L2.out; omega); intro v5 w4 ho hb hg hat; have n2_ := Aside0.mk (Kd.S_after (ok := (fun k_ => some k_ ≠ ((.slice Ab t2.length cb) : Value).ownBlock)) (Kd.S_mono HO_2.out (fun _ hk => ⟨hk.2, hk.1⟩)) hg hat); have n4_ := Aside0.mk (blk_grown (g := g4) (o := .cells #[.func (.func 39) #[] #[]] 56 (0, 0)) (by (with_reducible repeat (first | refine blk_drewN ?_ _ | refine blk_drew ?_ | refine blk_alloc ?_ _)); exact BK.out) hg (Kd.S_ne HO_3.out BK.out (by decide))); clear HO_2 HO_3 HOB BK HB; have HO_2 := n2_; have HO_3 := Aside0.mk ho; have BK := n4_; have HB := Aside0.mk hb; clear n2_ n4_ ho hb hg hat))
            go_roundg k1
            case measure => have := HK1.out; omega
            case rel => exact ⟨_, _, H', ⟨by have := HK1.out; omega⟩, ⟨by (with_reducible repeat (first | apply Kd.S_alloc | apply Kd.S_drewN | apply Kd.S_drew)); exact Kd.S_mono HO_2.out (fun _ hk => hk.2)⟩, ⟨by (with_reducible repeat (first | apply Kd.S_alloc | apply Kd.S_drewN | apply Kd.S_drew)); exact HO_3.out⟩, ⟨(by (with_reducible repeat (first | refine blk_drewN ?_ _ | refine blk_drew ?_ | refine blk_alloc ?_ _)); exact BK.out)⟩, ⟨by repeat (first | (with_reducible first | exact HB.out | apply below_alloc | apply pw_below_drewN | apply below_drew1) | exact HB.out)⟩⟩
          · rw [if_neg c3] at H
            exact absurd H (by simp)
        · rw [if_neg c2] at H
          exact absurd H (by simp)
      · rw [if_neg c1] at H
        have c1b : decide ((x1.length : Int) < n) = false := decide_eq_false c1
        clear c1
        simp only [Option.some.injEq, Prod.mk.injEq] at H
        obtain ⟨rfl, rfl, rfl⟩ := H
        obtain ⟨A2, cp2, e2⟩ := Kd.S_slice HO_2.out
        subst e2
        go_wp2
        go_ret3
        exact ⟨_, _, rfl, by (with_reducible repeat (first | apply Kd.S_alloc | apply Kd.S_drewN | apply Kd.S_drew)); exact HO_2.out, by (with_reducible repeat (first | apply Kd.S_alloc | apply Kd.S_drewN | apply Kd.S_drew)); exact HO_3.out, by repeat (first | (with_reducible first | exact HB.out | apply below_alloc | apply pw_below_drewN | apply below_drew1) | exact HB.out)⟩


/-! ### page_Build: function 11 -/
mutual
def page_Build.j0 : Nat → Int → List (S38) → Bool → Option ((List (List Int)) × (List (List Int)) × Int)
 | 0, _, _, _ => none
 | k + 1,x0,x1,x30 => if x30 = true then (some (([] : List (List Int)),([] : List (List Int)),1)) else (page_Build.l0 k x0 ([] : List (List Int)) ([] : List (List Int)) x1 (x1.length : Int) 0)
def page_Build.l0 : Nat → Int → List (List Int) → List (List Int) → List (S38) → Int → Int → Option ((List (List Int)) × (List (List Int)) × Int)
 | 0, _, _, _, _, _, _ => none
 | k + 1,x0,x7,x8,x31,x32,x33 => if x33 < x32 then (if 0 ≤ x33 then (if x33 < (x31.length : Int) then ((page_sector.f ((rd_T38 x31 x33).f0) ((rd_T38 x31 x33).f1) ((rd_T38 x31 x33).f2) ((rd_T38 x31 x33).f3) ((rd_T38 x31 x33).f4)).bind fun t127 => ((oob_Pack.f k ((rd_T38 x31 x33).f0) ((rd_T38 x31 x33).f1) ((rd_T38 x31 x33).f2) t127).bind fun bt130 => (if bt130.2 = 0 then (if ((rd_T38 x31 x33).f0) = 1 then (if x7.length < 5864062014805 then (if x8.length < 5864062014805 then (page_Build.l0 k x0 (x7 ++ [t127]) (x8 ++ [bt130.1]) x31 x32 (wrap64 (x33 + 1))) else (none)) else (none)) else (if ((rd_T38 x31 x33).f0) = 2 then (if x7.length < 5864062014805 then (if x8.length < 5864062014805 then (page_Build.l0 k x0 (x7 ++ [t127]) (x8 ++ [bt130.1]) x31 x32 (wrap64 (x33 + 1))) else (none)) else (none)) else (some (([] : List (List Int)),([] : List (List Int)),1)))) else (some (([] : List (List Int)),([] : List (List Int)),1))))) else (none)) else (none)) else ((page_pads.f).bind fun t117 => ((page_filler_fill.f k t117 x0 x7 x8).bind fun bt118 => (some (bt118.1,bt118.2.1,bt118.2.2))))
end
def page_Build.f (k : Nat) (a0 : Int) (l1 : List (S38)) : Option ((List (List Int)) × (List (List Int)) × Int) := if a0 < 1 then (page_Build.j0 k a0 l1 true) else (if a0 > 4 then (page_Build.j0 k a0 l1 true) else (if (l1.length : Int) = 0 then (page_Build.j0 k a0 l1 true) else (page_Build.j0 k a0 l1 (decide ((l1.length : Int) > a0)))))
theorem page_Build.mono_l : ∀ k,(∀ y0 y1 y2,LeO (page_Build.j0 k y0 y1 y2) (page_Build.j0 (k + 1) y0 y1 y2)) ∧ (∀ y0 y1 y2 y3 y4 y5,LeO (page_Build.l0 k y0 y1 y2 y3 y4 y5) (page_Build.l0 (k + 1) y0 y1 y2 y3 y4 y5))
 | 0 => ⟨fun _ _ _ r h => by simp [page_Build.j0] at h, fun _ _ _ _ _ _ r h => by simp [page_Build.l0] at h⟩
 | k + 1 => by
  obtain ⟨ih0, ih1⟩ := page_Build.mono_l k
  refine ⟨?_, ?_⟩
  ·intro y0 y1 y2
   unfold page_Build.j0
   repeat' first
   | (with_reducible exact ih0 _ _ _)
   | (with_reducible exact ih1 _ _ _ _ _ _)
   | (with_reducible exact oob_Pack.mono _ _ _ _ _)
   | (with_reducible exact page_filler_fill.mono _ _ _ _ _)
   | (with_reducible exact LeO.refl _)
   | (with_reducible exact LeO.none _)
   | (with_reducible refine LeO.ite ?_ ?_)
   | (with_reducible refine LeO.bind ?_ (fun _ => ?_))
   | exact ih0 _ _ _
   | exact ih1 _ _ _ _ _ _
   | exact oob_Pack.mono _ _ _ _ _
   | exact page_filler_fill.mono _ _ _ _ _
   | exact LeO.none _
   | refine LeO.ite ?_ ?_
   | refine LeO.bind ?_ (fun _ => ?_)
  ·intro y0 y1 y2 y3 y4 y5
   unfold page_Build.l0
   repeat' first
   | (with_reducible exact ih0 _ _ _)
   | (with_reducible exact ih1 _ _ _ _ _ _)
   | (with_reducible exact oob_Pack.mono _ _ _ _ _)
   | (with_reducible exact page_filler_fill.mono _ _ _ _ _)
   | (with_reducible exact LeO.refl _)
   | (with_reducible exact LeO.none _)
   | (with_reducible refine LeO.ite ?_ ?_)
   | (with_reducible refine LeO.bind ?_ (fun _ => ?_))
   | exact ih0 _ _ _
   | exact ih1 _ _ _ _ _ _
   | exact oob_Pack.mono _ _ _ _ _
   | exact page_filler_fill.mono _ _ _ _ _
   | exact LeO.none _
   | refine LeO.ite ?_ ?_
   | refine LeO.bind ?_ (fun _ => ?_)
theorem page_Build.mono : ∀ a0 a1 k, LeO (page_Build.f k a0 a1) (page_Build.f (k + 1) a0 a1) := by
 intro a0 a1 k
 obtain ⟨ih0, ih1⟩ := page_Build.mono_l k
 unfold page_Build.f
 repeat' first
   | (with_reducible exact ih0 _ _ _)
   | (with_reducible exact ih1 _ _ _ _ _ _)
   | (with_reducible exact oob_Pack.mono _ _ _ _ _)
   | (with_reducible exact page_filler_fill.mono _ _ _ _ _)
   | (with_reducible exact LeO.refl _)
   | (with_reducible exact LeO.none _)
   | (with_reducible refine LeO.ite ?_ ?_)
   | (with_reducible refine LeO.bind ?_ (fun _ => ?_))
   | exact ih0 _ _ _
   | exact ih1 _ _ _ _ _ _
   | exact oob_Pack.mono _ _ _ _ _
   | exact page_filler_fill.mono _ _ _ _ _
   | exact LeO.none _
   | refine LeO.ite ?_ ?_
   | refine LeO.bind ?_ (fun _ => ?_)
set_option maxHeartbeats 8000000 in
set_option maxRecDepth 100000 in
theorem page_Build.calls (k : Nat) (a0 : Int) (A1 : Option Addr) (c1 : Nat) (l1 : List (S38)) (r1 : List (List Int)) (r2 : List (List Int)) (r3 : Int) (w : World) (hr1 : Kd.C k38 w A1 l1.length l1) (hc1 : l1.length ≤ c1) (h : page_Build.f k a0 l1 = some (r1,r2,r3)) :
  Calls Try.prog 11 #[.int .i64 a0,.slice A1 l1.length c1] w fun e w' => ∃ v0_ v1_ : Value,e = .returned (.tuple #[v0_,v1_,.int .i64 r3]) ∧ Kd.S (Kd.slice 5 (Kd.int .u8)) 36 w' w.heap.size (fun k_ => some k_ ≠ (v1_ : Value).ownBlock) v0_ r1 ∧ Kd.S (Kd.slice 5 (Kd.int .u8)) 36 w' w.heap.size (fun k_ => some k_ ≠ (v0_ : Value).ownBlock) v1_ r2 ∧ Below w.heap.size w w' := by
 have hu38 := Try.underlying38
 have hu40 := Try.underlying40
 have HR1 := Aside0.mk hr1
 have HC1 := Aside0.mk hc1
 clear hr1 hc1
 have HB := Aside0.mk (Below.refl w.heap.size w)
 have H : (if a0 < 1 then (page_Build.j0 k a0 l1 true) else (if a0 > 4 then (page_Build.j0 k a0 l1 true) else (if (l1.length : Int) = 0 then (page_Build.j0 k a0 l1 true) else (page_Build.j0 k a0 l1 (decide ((l1.length : Int) > a0)))))) = some (r1,r2,r3) := h
 clear h
 have HC3 := Aside0.mk H
 clear H
 go_enter Try.func11, Try.ntmps11
 go_upto_region 1 with (fail)
 go_cut [30] (fun v30 wc => ∃ (kq : Nat) (x30_2 : Bool),v30 = .bool x30_2 ∧ Aside0 (page_Build.j0 kq a0 l1 x30_2 = some (r1,r2,r3)) ∧ Aside0 (kq ≤ k) ∧ Aside0 (Below w.heap.size w wc))
 case first =>
  have H := HC3.out
  clear HC3
  by_cases c4 : a0 < 1
  ·rw [if_pos c4] at H
   have c4b0 : decide (a0 < 1) = true := decide_eq_true c4
   clear c4
   (first | rw [c4b0] | (simp only [i64_w, i32_w]; rw [c4b0]) | skip)
   have H' := Aside0.mk H
   clear H
   go_wp2
   go_meet
   case rel => exact ⟨_,(true),(by first|rfl|(simp;done)|(simp [*];done)),H',⟨by first|omega|exact Nat.le_refl _⟩,⟨by repeat (first|(with_reducible first|exact HB.out|apply below_alloc|apply pw_below_drewN|apply below_drew1)|exact HB.out)⟩⟩
  ·rw [if_neg c4] at H
   have c4b0 : decide (a0 < 1) = false := decide_eq_false c4
   clear c4
   (first | rw [c4b0] | (simp only [i64_w, i32_w]; rw [c4b0]) | skip)
   by_cases c5 : a0 > 4
   ·rw [if_pos c5] at H
    have c5b0 : decide (4 < a0) = true := decide_eq_true c5
    clear c5
    have H' := Aside0.mk H
    clear H
    go_wp2
    go_meet
    case rel => exact ⟨_,(true),(by first|rfl|(simp;done)|(simp [*];done)),H',⟨by first|omega|exact Nat.le_refl _⟩,⟨by repeat (first|(with_reducible first|exact HB.out|apply below_alloc|apply pw_below_drewN|apply below_drew1)|exact HB.out)⟩⟩
   ·rw [if_neg c5] at H
    have c5b0 : decide (4 < a0) = false := decide_eq_false c5
    clear c5
    by_cases c6 : (l1.length : Int) = 0
    ·rw [if_pos c6] at H
     have c6b0 : ((l1.length : Int) == 0) = true := beq_iff_eq.mpr c6
     have c6b1 : ((l1.length : Int) != 0) = false := bne_eq_false_iff_eq.mpr c6
     clear c6
     have H' := Aside0.mk H
     clear H
     go_wp2
     go_meet
     case rel => exact ⟨_,(true),(by first|rfl|(simp;done)|(simp [*];done)),H',⟨by first|omega|exact Nat.le_refl _⟩,⟨by repeat (first|(with_reducible first|exact HB.out|apply below_alloc|apply pw_below_drewN|apply below_drew1)|exact HB.out)⟩⟩
    ·rw [if_neg c6] at H
     have c6b0 : ((l1.length : Int) == 0) = false := beq_eq_false_iff_ne.mpr c6
     have c6b1 : ((l1.length : Int) != 0) = true := bne_iff_ne.mpr c6
     have c6b2 : ¬ (l1 = []) := fun h_ => c6 (by rw [h_]; rfl)
     have H' := Aside0.mk H
     clear H
     go_wp2
     go_meet
     case rel => exact ⟨_,(decide ((l1.length : Int) > a0)),(by first|rfl|(simp;done)|(simp [*];done)),H',⟨by first|omega|exact Nat.le_refl _⟩,⟨by repeat (first|(with_reducible first|exact HB.out|apply below_alloc|apply pw_below_drewN|apply below_drew1)|exact HB.out)⟩⟩
 case rest =>
  clear HC3
  try clear c1
  try clear p2
  try clear c4
  try clear c4b0
  try clear c5
  try clear c5b0
  try clear c6
  try clear c6b0
  try clear c6b1
  try clear c6b2
  obtain ⟨kq, x30_2, rfl, HA, HJ2, HB⟩ := hcut
  cases kq with
  | zero => exact absurd HA.out (by simp [page_Build.j0])
  | succ kj2 =>
   have H := HA.out
   clear HA
   simp only [page_Build.j0] at H
   by_cases c7 : x30_2 = true
   ·subst c7
    have H1 : (some (([] : List (List Int)),([] : List (List Int)),1)) = some (r1,r2,r3) := by rw [if_pos rfl] at H;exact H
    clear H
    have H := H1
    clear H1
    simp only [Option.some.injEq, Prod.mk.injEq] at H
    obtain ⟨rfl, rfl, rfl⟩ := H
    go_wp2
    go_ret3
    exact ⟨_,_,by first|rfl|(simp [errW_none,errW_some] <;> rfl)|(simp [*,errW_none,errW_some] <;> rfl),by first|exact Kd.S_nil _ _ _ _ _|exact Kd.N_nil _ _ _ _ _|exact Kd.V_nil _ _ _ _ _|exact Kd.Q_nil _ _ _ _ _|exact Kd.R_nil _ _ _ _ _,by first|exact Kd.S_nil _ _ _ _ _|exact Kd.N_nil _ _ _ _ _|exact Kd.V_nil _ _ _ _ _|exact Kd.Q_nil _ _ _ _ _|exact Kd.R_nil _ _ _ _ _,by repeat (first|(with_reducible first|exact HB.out|apply below_alloc|apply pw_below_drewN|apply below_drew1)|exact HB.out)⟩
   ·replace c7 := Bool.eq_false_iff.mpr c7
    subst c7
    have H1 : (page_Build.l0 kj2 a0 ([] : List (List Int)) ([] : List (List Int)) l1 (l1.length : Int) 0) = some (r1,r2,r3) := by rw [if_neg (show ¬ (false = true) by decide)] at H;exact H
    clear H
    have H := H1
    clear H1
    have H' := Aside0.mk H
    clear H
    go_wp2
    go_loopg [7,8,33] kj2 (fun kq v7 v8 v33 w' => ∃ (x7_2 : List (List Int)) (x8_2 : List (List Int)) (x33_2 : Int),v33 = .int .i64 x33_2 ∧ Aside0 (page_Build.l0 kq a0 x7_2 x8_2 l1 (l1.length : Int) x33_2 = some (r1,r2,r3)) ∧ Aside0 (kq ≤ kj2) ∧ Aside0 (Kd.S (Kd.slice 5 (Kd.int .u8)) 36 w' w.heap.size (fun k_ => some k_ ≠ (v8 : Value).ownBlock) v7 x7_2) ∧ Aside0 (Kd.S (Kd.slice 5 (Kd.int .u8)) 36 w' w.heap.size (fun k_ => some k_ ≠ (v7 : Value).ownBlock) v8 x8_2) ∧ Aside0 (Below w.heap.size w w'))
    case atStart => exact ⟨(([] : List (List Int))),(([] : List (List Int))),(0),(by first|rfl|(simp;done)|(simp [*];done)),H',⟨Nat.le_refl _⟩,⟨by first|exact Kd.S_nil _ _ _ _ _|exact Kd.N_nil _ _ _ _ _|exact Kd.V_nil _ _ _ _ _|exact Kd.Q_nil _ _ _ _ _|exact Kd.R_nil _ _ _ _ _⟩,⟨by first|exact Kd.S_nil _ _ _ _ _|exact Kd.N_nil _ _ _ _ _|exact Kd.V_nil _ _ _ _ _|exact Kd.Q_nil _ _ _ _ _|exact Kd.R_nil _ _ _ _ _⟩,⟨by repeat (first|(with_reducible first|exact HB.out|apply below_alloc|apply pw_below_drewN|apply below_drew1)|exact HB.out)⟩⟩
    case round =>
     clear H'
     try clear c1
     try clear p2
     try clear c4
     try clear c4b0
     try clear c5
     try clear c5b0
     try clear c6
     try clear c6b0
     try clear c6b1
     try clear c6b2
     try clear c7
     try clear p2
     obtain ⟨x7_2, x8_2, x33_2, rfl, HA, HK2, HO_7, HO_8, HB⟩ := hrel
     cases gk with
     | zero => exact absurd HA.out (by simp [page_Build.l0])
     | succ k2 =>
      have H := HA.out
      clear HA
      simp only [page_Build.l0] at H
      by_cases c8 : x33_2 < (l1.length : Int)
      ·rw [if_pos c8] at H
       have c8b0 : decide (x33_2 < (l1.length : Int)) = true := decide_eq_true c8
       clear c8
       by_cases c9 : 0 ≤ x33_2
       ·rw [if_pos c9] at H
        have c9b0 : decide (0 ≤ x33_2) = true := decide_eq_true c9
        clear c9
        by_cases c10 : x33_2 < (l1.length : Int)
        ·rw [if_pos c10] at H
         have c10b0 : decide (x33_2 < (l1.length : Int)) = true := decide_eq_true c10
         clear c10
         replace H := Option.bind_eq_some_iff.mp H
         obtain ⟨t127, A110, H⟩ := H
         replace H : ((oob_Pack.f k2 ((rd_T38 l1 x33_2).f0) ((rd_T38 l1 x33_2).f1) ((rd_T38 l1 x33_2).f2) t127).bind fun bt130 => (if bt130.2 = 0 then (if ((rd_T38 l1 x33_2).f0) = 1 then (if x7_2.length < 5864062014805 then (if x8_2.length < 5864062014805 then (page_Build.l0 k2 a0 (x7_2 ++ [t127]) (x8_2 ++ [bt130.1]) l1 (l1.length : Int) (wrap64 (x33_2 + 1))) else (none)) else (none)) else (if ((rd_T38 l1 x33_2).f0) = 2 then (if x7_2.length < 5864062014805 then (if x8_2.length < 5864062014805 then (page_Build.l0 k2 a0 (x7_2 ++ [t127]) (x8_2 ++ [bt130.1]) l1 (l1.length : Int) (wrap64 (x33_2 + 1))) else (none)) else (none)) else (some (([] : List (List Int)),([] : List (List Int)),1)))) else (some (([] : List (List Int)),([] : List (List Int)),1)))) = some (r1,r2,r3) := H
         have A11 := Aside0.mk A110
         clear A110
         replace H := Option.bind_eq_some_iff.mp H
         obtain ⟨⟨t130, t133⟩, A120, H⟩ := H
         replace H : (if t133 = 0 then (if ((rd_T38 l1 x33_2).f0) = 1 then (if x7_2.length < 5864062014805 then (if x8_2.length < 5864062014805 then (page_Build.l0 k2 a0 (x7_2 ++ [t127]) (x8_2 ++ [t130]) l1 (l1.length : Int) (wrap64 (x33_2 + 1))) else (none)) else (none)) else (if ((rd_T38 l1 x33_2).f0) = 2 then (if x7_2.length < 5864062014805 then (if x8_2.length < 5864062014805 then (page_Build.l0 k2 a0 (x7_2 ++ [t127]) (x8_2 ++ [t130]) l1 (l1.length : Int) (wrap64 (x33_2 + 1))) else (none)) else (none)) else (some (([] : List (List Int)),([] : List (List Int)),1)))) else (some (([] : List (List Int)),([] : List (List Int)),1))) = some (r1,r2,r3) := H
         have A12 := Aside0.mk A120
         clear A120
         by_cases c13 : t133 = 0
         ·rw [if_pos c13] at H
          have c13b0 : (t133 == 0) = true := beq_iff_eq.mpr c13
          have c13b1 : (t133 != 0) = false := bne_eq_false_iff_eq.mpr c13
          clear c13
          by_cases c14 : ((rd_T38 l1 x33_2).f0) = 1
          ·rw [if_pos c14] at H
           have c14b0 : (((rd_T38 l1 x33_2).f0) == 1) = true := beq_iff_eq.mpr c14
           have c14b1 : (((rd_T38 l1 x33_2).f0) != 1) = false := bne_eq_false_iff_eq.mpr c14
           clear c14
           by_cases c15 : x7_2.length < 5864062014805
           ·rw [if_pos c15] at H
            have LMc15 := Aside0.mk c15
            clear c15
            obtain ⟨y134, hy134⟩ : ∃ y_ : List (List Int), y_ = (x7_2 ++ [t127]) := ⟨_, rfl⟩
            replace H : (if x8_2.length < 5864062014805 then (page_Build.l0 k2 a0 y134 (x8_2 ++ [t130]) l1 (l1.length : Int) (wrap64 (x33_2 + 1))) else (none)) = some (r1,r2,r3) := by first|(rw [hy134];with_reducible exact H)|(have H2_ := (Option.bind_some _ _).symm.trans H;rw [hy134];with_reducible exact H2_)|(have H2_ := (Option.bind_some _ _).symm.trans H;with_reducible exact H2_)|with_reducible exact H|(rw [hy134];exact H)|exact H
            have Ny134 := Aside0.mk hy134
            clear hy134
            by_cases c16 : x8_2.length < 5864062014805
            ·rw [if_pos c16] at H
             have LMc16 := Aside0.mk c16
             clear c16
             obtain ⟨y137, hy137⟩ : ∃ y_ : List (List Int), y_ = (x8_2 ++ [t130]) := ⟨_, rfl⟩
             replace H : (page_Build.l0 k2 a0 y134 y137 l1 (l1.length : Int) (wrap64 (x33_2 + 1))) = some (r1,r2,r3) := by first|(rw [hy137];with_reducible exact H)|(have H2_ := (Option.bind_some _ _).symm.trans H;rw [hy137];with_reducible exact H2_)|(have H2_ := (Option.bind_some _ _).symm.trans H;with_reducible exact H2_)|with_reducible exact H|(rw [hy137];exact H)|exact H
             have Ny137 := Aside0.mk hy137
             clear hy137
             have H' := Aside0.mk H
             clear H
             have p125 : 0 ≤ (x33_2 : Int) := of_decide_eq_true (by first | (with_reducible assumption) | assumption)
             have q125 : x33_2 < (l1.length : Int) := of_decide_eq_true (by first|(with_reducible assumption)|assumption)
             obtain ⟨ad125,A125_3,c125_3,e125,hx125_0,hx125_1,hx125_2,hx125_3,hx125_4,hl125_3,hi125_3⟩ := at_T38 HR1.out x33_2 p125 q125
             cases e125
             replace hx125_0 := (HB.out.cell (World.block_lt_of_cell? w _ hx125_0)).trans hx125_0
             replace hx125_1 := (HB.out.cell (World.block_lt_of_cell? w _ hx125_1)).trans hx125_1
             replace hx125_2 := (HB.out.cell (World.block_lt_of_cell? w _ hx125_2)).trans hx125_2
             replace hx125_3 := (HB.out.cell (World.block_lt_of_cell? w _ hx125_3)).trans hx125_3
             replace hx125_4 := (HB.out.cell (World.block_lt_of_cell? w _ hx125_4)).trans hx125_4
             have HR125_3 := Aside0.mk hi125_3
             have HC125_3 := Aside0.mk hl125_3
             clear hi125_3 hl125_3
             replace p125 := eq_true p125
             replace q125 := eq_true q125
             go_wp2_with (first|((with_reducible refine gate_dst (N := 10) rfl ?_);(try (refine gate_guard (by rfl) ?_;dsimp only));refine box_event ?hg (N := 10) ?hd (cs := #[.int .i64 0,.int .i64 0,.int .i64 0,.slice none 0 0,.int .i64 0]) (t := 38) ?hr ?_;(case hd => rfl);(case hg => rfl);(case hr => first|(go_simp;done)|(go_simp;rfl));intro gb126 hg w17 hbox hb;have n0_ := Aside0.mk (Kd.S_below (by (with_reducible repeat (first|apply Kd.S_alloc|apply Kd.S_drewN|apply Kd.S_drew));exact HO_7.out) hb);have n1_ := Aside0.mk (Kd.S_below (by (with_reducible repeat (first|apply Kd.S_alloc|apply Kd.S_drewN|apply Kd.S_drew));exact HO_8.out) hb);have n2_ := Aside0.mk (below_step (by repeat (first|(with_reducible first|exact HB.out|apply below_alloc|apply pw_below_drewN|apply below_drew1)|exact HB.out)) hb);have n3_ := Aside0.mk (hbox);have n4_ := Aside0.mk ((by rw [hg];exact (below_size (by repeat (first|(with_reducible first|exact HB.out|apply below_alloc|apply pw_below_drewN|apply below_drew1)|exact HB.out))) : w.heap.size ≤ gb126));have n5_ := Aside0.mk ((by rw [hg];exact (below_size (by repeat (first|(with_reducible first|exact HB.out|apply below_alloc|apply pw_below_drewN|apply below_drew1)|exact HB.out))) : w.heap.size ≤ gb126));clear HO_7;clear HO_8;clear HB;have HO_7 := n0_;have HO_8 := n1_;have HB := n2_;have BK126 := n3_;have GW126 := n4_;have GE126 := n5_;clear n0_ n1_ n2_ n3_ n4_ n5_;clear hb hbox hg;have hcz18_0 : w17.cell? ⟨gb126,0,none⟩ = some (.int .i64 0) := (blk_cell BK126.out 0).trans rfl;have hcz18_1 : w17.cell? ⟨gb126,1,none⟩ = some (.int .i64 0) := (blk_cell BK126.out 1).trans rfl;have hcz18_2 : w17.cell? ⟨gb126,2,none⟩ = some (.int .i64 0) := (blk_cell BK126.out 2).trans rfl;have hcz18_3 : w17.cell? ⟨gb126,3,none⟩ = some (.slice none 0 0) := (blk_cell BK126.out 3).trans rfl;have hcz18_4 : w17.cell? ⟨gb126,4,none⟩ = some (.int .i64 0) := (blk_cell BK126.out 4).trans rfl;have hfz18_0 := blk_frozen BK126.out 0;have hfz18_1 := blk_frozen BK126.out 1;have hfz18_2 := blk_frozen BK126.out 2;have hfz18_3 := blk_frozen BK126.out 3;have hfz18_4 := blk_frozen BK126.out 4)|((with_reducible refine gate_callee (f := 21) rfl ?_);refine goesL_ (some 38) rfl rfl Try.func21 (by kernel_rfl) rfl #[.agg #[.int .i64 ((rd_T38 l1 x33_2).f0),.int .i64 ((rd_T38 l1 x33_2).f1),.int .i64 ((rd_T38 l1 x33_2).f2),.slice A125_3 ((rd_T38 l1 x33_2).f3).length c125_3,.int .i64 ((rd_T38 l1 x33_2).f4)]] rfl (by (try simp only [List.map_toArray,List.map_cons,List.map_nil]);first|done|rfl|(simp only [List.length_drop,List.length_take];rfl)) ?_;(with_reducible refine (page_sector.calls ((rd_T38 l1 x33_2).f0) ((rd_T38 l1 x33_2).f1) ((rd_T38 l1 x33_2).f2) _ _ ((rd_T38 l1 x33_2).f3) ((rd_T38 l1 x33_2).f4) t127 _ ?side1 ?side2 A11.out).mono ?_);(case side1 => exact Kd.C_below HR125_3.out (by repeat (first|(with_reducible first|exact HB.out|apply below_alloc|apply pw_below_drewN|apply below_drew1|refine below_set ?_ GE126.out)|exact HB.out)));(case side2 => exact HC125_3.out);rintro e w19 ⟨v128,rfl,ho0,hb⟩;refine ⟨_,rfl,?_⟩;have n0_ := Aside0.mk (Kd.S_elder' (by (with_reducible repeat (first|apply Kd.S_alloc|apply Kd.S_drewN|apply Kd.S_drew));exact (Kd.S_mono (Kd.S_far (p := ⟨gb126,4,none⟩) (Kd.S_far (p := ⟨gb126,3,none⟩) (Kd.S_far (p := ⟨gb126,2,none⟩) (Kd.S_far (p := ⟨gb126,1,none⟩) (Kd.S_far (p := ⟨gb126,0,none⟩) (Kd.S_types HO_7.out BK126.out (by decide)) (fun _ hk => hk.2) (.int .i64 ((rd_T38 l1 x33_2).f0))) (fun _ hk => hk.2) (.int .i64 ((rd_T38 l1 x33_2).f1))) (fun _ hk => hk.2) (.int .i64 ((rd_T38 l1 x33_2).f2))) (fun _ hk => hk.2) (.slice A125_3 ((rd_T38 l1 x33_2).f3).length c125_3)) (fun _ hk => hk.2) (.int .i64 ((rd_T38 l1 x33_2).f4))) (fun _ h_ => h_.1))) (Kd.R_base ho0) hb);have n1_ := Aside0.mk (Kd.S_elder' (by (with_reducible repeat (first|apply Kd.S_alloc|apply Kd.S_drewN|apply Kd.S_drew));exact (Kd.S_mono (Kd.S_far (p := ⟨gb126,4,none⟩) (Kd.S_far (p := ⟨gb126,3,none⟩) (Kd.S_far (p := ⟨gb126,2,none⟩) (Kd.S_far (p := ⟨gb126,1,none⟩) (Kd.S_far (p := ⟨gb126,0,none⟩) (Kd.S_types HO_8.out BK126.out (by decide)) (fun _ hk => hk.2) (.int .i64 ((rd_T38 l1 x33_2).f0))) (fun _ hk => hk.2) (.int .i64 ((rd_T38 l1 x33_2).f1))) (fun _ hk => hk.2) (.int .i64 ((rd_T38 l1 x33_2).f2))) (fun _ hk => hk.2) (.slice A125_3 ((rd_T38 l1 x33_2).f3).length c125_3)) (fun _ hk => hk.2) (.int .i64 ((rd_T38 l1 x33_2).f4))) (fun _ h_ => h_.1))) (Kd.R_base ho0) hb);have n2_ := Aside0.mk (Kd.R_lower ho0 (below_size (by repeat (first|(with_reducible first|exact HB.out|apply below_alloc|apply pw_below_drewN|apply below_drew1|refine below_set ?_ GE126.out)|exact HB.out))));have n3_ := Aside0.mk (blk_below (g := gb126) (o := .cells #[.int .i64 ((rd_T38 l1 x33_2).f0),.int .i64 ((rd_T38 l1 x33_2).f1),.int .i64 ((rd_T38 l1 x33_2).f2),.slice A125_3 ((rd_T38 l1 x33_2).f3).length c125_3,.int .i64 ((rd_T38 l1 x33_2).f4)] 38 (0,0)) (by (with_reducible repeat (first|refine blk_drewN ?_ _|refine blk_drew ?_|refine blk_alloc ?_ _));refine blk_put (cs := #[.int .i64 ((rd_T38 l1 x33_2).f0),.int .i64 ((rd_T38 l1 x33_2).f1),.int .i64 ((rd_T38 l1 x33_2).f2),.slice A125_3 ((rd_T38 l1 x33_2).f3).length c125_3,.int .i64 0]) ?_ 4 _ rfl;(with_reducible repeat (first|refine blk_drewN ?_ _|refine blk_drew ?_|refine blk_alloc ?_ _));refine blk_put (cs := #[.int .i64 ((rd_T38 l1 x33_2).f0),.int .i64 ((rd_T38 l1 x33_2).f1),.int .i64 ((rd_T38 l1 x33_2).f2),.slice none 0 0,.int .i64 0]) ?_ 3 _ rfl;(with_reducible repeat (first|refine blk_drewN ?_ _|refine blk_drew ?_|refine blk_alloc ?_ _));refine blk_put (cs := #[.int .i64 ((rd_T38 l1 x33_2).f0),.int .i64 ((rd_T38 l1 x33_2).f1),.int .i64 0,.slice none 0 0,.int .i64 0]) ?_ 2 _ rfl;(with_reducible repeat (first|refine blk_drewN ?_ _|refine blk_drew ?_|refine blk_alloc ?_ _));refine blk_put (cs := #[.int .i64 ((rd_T38 l1 x33_2).f0),.int .i64 0,.int .i64 0,.slice none 0 0,.int .i64 0]) ?_ 1 _ rfl;(with_reducible repeat (first|refine blk_drewN ?_ _|refine blk_drew ?_|refine blk_alloc ?_ _));refine blk_put (cs := #[.int .i64 0,.int .i64 0,.int .i64 0,.slice none 0 0,.int .i64 0]) ?_ 0 _ rfl;(with_reducible repeat (first|refine blk_drewN ?_ _|refine blk_drew ?_|refine blk_alloc ?_ _));exact BK126.out) hb);have n4_ := Aside0.mk (below_step (by repeat (first|(with_reducible first|exact HB.out|apply below_alloc|apply pw_below_drewN|apply below_drew1|refine below_set ?_ GE126.out)|exact HB.out)) hb);clear HO_7;clear HO_8;clear BK126;clear HB;have HO_7 := n0_;have HO_8 := n1_;have HO129 := n2_;have BK126 := n3_;have HB := n4_;clear n0_ n1_ n2_ n3_ n4_;(try clear hb);(try clear hb2);(try clear hk);(try clear hi);(try clear ho0);have hcz20_0 : w19.cell? ⟨gb126,0,none⟩ = some (.int .i64 ((rd_T38 l1 x33_2).f0)) := (blk_cell BK126.out 0).trans rfl;have hcz20_1 : w19.cell? ⟨gb126,1,none⟩ = some (.int .i64 ((rd_T38 l1 x33_2).f1)) := (blk_cell BK126.out 1).trans rfl;have hcz20_2 : w19.cell? ⟨gb126,2,none⟩ = some (.int .i64 ((rd_T38 l1 x33_2).f2)) := (blk_cell BK126.out 2).trans rfl;have hcz20_3 : w19.cell? ⟨gb126,3,none⟩ = some (.slice A125_3 ((rd_T38 l1 x33_2).f3).length c125_3) := (blk_cell BK126.out 3).trans rfl;have hcz20_4 : w19.cell? ⟨gb126,4,none⟩ = some (.int .i64 ((rd_T38 l1 x33_2).f4)) := (blk_cell BK126.out 4).trans rfl;have hfz20_0 := blk_frozen BK126.out 0;have hfz20_1 := blk_frozen BK126.out 1;have hfz20_2 := blk_frozen BK126.out 2;have hfz20_3 := blk_frozen BK126.out 3;have hfz20_4 := blk_frozen BK126.out 4;obtain ⟨Ao21,co21,eo21⟩ := Kd.R_slice HO129.out;subst eo21)|((with_reducible refine gate_callee (f := 22) rfl ?_);refine goesL_ (some 48) rfl rfl Try.func22 (by kernel_rfl) rfl #[.agg #[.int .i64 ((rd_T38 l1 x33_2).f0),.int .i64 ((rd_T38 l1 x33_2).f1),.int .i64 ((rd_T38 l1 x33_2).f2)],.slice Ao21 t127.length co21] rfl (by (try simp only [List.map_toArray,List.map_cons,List.map_nil]);first|done|rfl|(simp only [List.length_drop,List.length_take];rfl)) ?_;(with_reducible refine (oob_Pack.calls k2 ((rd_T38 l1 x33_2).f0) ((rd_T38 l1 x33_2).f1) ((rd_T38 l1 x33_2).f2) _ _ t127 t130 t133 _ ?side1 ?side2 A12.out).mono ?_);(case side1 => repeat (first|exact (Kd.R_reads' HO129.out).2.2|(with_reducible refine Kd.C_alloc ?_ _)|(with_reducible refine Kd.C_drewN ?_ _)|(with_reducible refine Kd.C_drew ?_)));(case side2 => exact (Kd.R_reads' HO129.out).2.1);rintro e w22 ⟨v131,rfl,ho0,hb⟩;refine ⟨_,rfl,?_⟩;have n0_ := Aside0.mk (Kd.S_elder' (by (with_reducible repeat (first|apply Kd.S_alloc|apply Kd.S_drewN|apply Kd.S_drew));exact HO_7.out) (Kd.R_base ho0) hb);have n1_ := Aside0.mk (Kd.S_elder' (by (with_reducible repeat (first|apply Kd.S_alloc|apply Kd.S_drewN|apply Kd.S_drew));exact HO_8.out) (Kd.R_base ho0) hb);have n2_ := Aside0.mk (Kd.R_elder' (by (with_reducible repeat (first|apply Kd.R_alloc|apply Kd.R_drewN|apply Kd.R_drew));exact HO129.out) (Kd.R_base ho0) hb);have n3_ := Aside0.mk (Kd.R_lower (Kd.R_new' ho0 (Kd.R_lt (by (with_reducible repeat (first|apply Kd.R_alloc|apply Kd.R_drewN|apply Kd.R_drew));exact HO129.out))) (below_size (by repeat (first|(with_reducible first|exact HB.out|apply below_alloc|apply pw_below_drewN|apply below_drew1|refine below_set ?_ GE126.out)|exact HB.out))));have n4_ := Aside0.mk (blk_below (g := gb126) (o := .cells #[.int .i64 ((rd_T38 l1 x33_2).f0),.int .i64 ((rd_T38 l1 x33_2).f1),.int .i64 ((rd_T38 l1 x33_2).f2),.slice A125_3 ((rd_T38 l1 x33_2).f3).length c125_3,.int .i64 ((rd_T38 l1 x33_2).f4)] 38 (0,0)) (by (with_reducible repeat (first|refine blk_drewN ?_ _|refine blk_drew ?_|refine blk_alloc ?_ _));exact BK126.out) hb);have n5_ := Aside0.mk (below_step (by repeat (first|(with_reducible first|exact HB.out|apply below_alloc|apply pw_below_drewN|apply below_drew1|refine below_set ?_ GE126.out)|exact HB.out)) hb);clear HO_7;clear HO_8;clear HO129;clear BK126;clear HB;have HO_7 := n0_;have HO_8 := n1_;have HO129 := n2_;have HO132 := n3_;have BK126 := n4_;have HB := n5_;clear n0_ n1_ n2_ n3_ n4_ n5_;(try clear hb);(try clear hb2);(try clear hk);(try clear hi);(try clear ho0);have hcz23_0 : w22.cell? ⟨gb126,0,none⟩ = some (.int .i64 ((rd_T38 l1 x33_2).f0)) := (blk_cell BK126.out 0).trans rfl;have hcz23_1 : w22.cell? ⟨gb126,1,none⟩ = some (.int .i64 ((rd_T38 l1 x33_2).f1)) := (blk_cell BK126.out 1).trans rfl;have hcz23_2 : w22.cell? ⟨gb126,2,none⟩ = some (.int .i64 ((rd_T38 l1 x33_2).f2)) := (blk_cell BK126.out 2).trans rfl;have hcz23_3 : w22.cell? ⟨gb126,3,none⟩ = some (.slice A125_3 ((rd_T38 l1 x33_2).f3).length c125_3) := (blk_cell BK126.out 3).trans rfl;have hcz23_4 : w22.cell? ⟨gb126,4,none⟩ = some (.int .i64 ((rd_T38 l1 x33_2).f4)) := (blk_cell BK126.out 4).trans rfl;have hfz23_0 := blk_frozen BK126.out 0;have hfz23_1 := blk_frozen BK126.out 1;have hfz23_2 := blk_frozen BK126.out 2;have hfz23_3 := blk_frozen BK126.out 3;have hfz23_4 := blk_frozen BK126.out 4)|((with_reducible refine gate_builtin (b := .append) (xs := #[.tmp 63,.tmp 65]) rfl ?_);(try (refine gate_guard (by rfl) ?_;dsimp only));at_builtin;refine Kd.S_append (Kd.slice 5 (Kd.int .u8)) (w0 := w) w.heap.size rfl (.tmp 63) (.tmp 65) 25 36 (.slice none 0 0) 24 rfl Try.underlying25 info36 rfl (by decide) (by omega) u7 x7_2 t127 [.slice Ao21 t127.length co21] (fun k_ => some k_ ≠ (u8 : Value).ownBlock ∧ some k_ ≠ (v131 : Value).ownBlock) (fun k_ => some k_ = (.slice Ao21 t127.length co21 : Value).ownBlock) rfl rfl ?aP (fun k_ hk_ => ((Kd.R_mono (ok' := fun k_ => ((fun k_ => some k_ ≠ (u8 : Value).ownBlock ∧ some k_ ≠ (v131 : Value).ownBlock)) k_ ∧ some k_ ≠ (u7 : Value).ownBlock) (Kd.R_apart' (Kd.R_apart' (HO129.out) (Kd.S_typed HO_8.out) (by decide)) (Kd.S_typed HO_7.out) (by decide)) (fun k_ hk => ⟨⟨hk.1.2,hk.1.1.2⟩,hk.2⟩))).1 k_ hk_.symm) ?aF ?aO ?aB ?aS ?aL ?_;(case aP => exact Kd.M_row (Kd.R_mono (Kd.R_tight rfl (Kd.R_mono (ok' := fun k_ => ((fun k_ => some k_ ≠ (u8 : Value).ownBlock ∧ some k_ ≠ (v131 : Value).ownBlock)) k_ ∧ some k_ ≠ (u7 : Value).ownBlock) (Kd.R_apart' (Kd.R_apart' (HO129.out) (Kd.S_typed HO_8.out) (by decide)) (Kd.S_typed HO_7.out) (by decide)) (fun k_ hk => ⟨⟨hk.1.2,hk.1.1.2⟩,hk.2⟩))) (fun _ h_ => h_)));(case aB => exact (by repeat (first|(with_reducible first|exact HB.out|apply below_alloc|apply pw_below_drewN|apply below_drew1|refine below_set ?_ GE126.out)|exact HB.out)));(case aF => exact (fun k_ hk => ⟨Kd.fresh' (Kd.S_lt (by (with_reducible repeat (first|apply Kd.S_alloc|apply Kd.S_drewN|apply Kd.S_drew));exact HO_8.out)) k_ hk,Kd.fresh' (Kd.R_lt (by (with_reducible repeat (first|apply Kd.R_alloc|apply Kd.R_drewN|apply Kd.R_drew));exact HO132.out)) k_ hk⟩));(case aO => exact (by (with_reducible repeat (first|apply Kd.S_alloc|apply Kd.S_drewN|apply Kd.S_drew));exact Kd.S_mono HO_7.out (fun k_ hk => ⟨⟨hk.1.1,hk.2⟩,fun e_ => hk.1.2 e_⟩)));(case aS => exact (below_size (by repeat (first|(with_reducible first|exact HB.out|apply below_alloc|apply pw_below_drewN|apply below_drew1|refine below_set ?_ GE126.out)|exact HB.out))));(case aL => have := LMc15.out;omega);intro v135 w24 ho hb hg hat;rw [← Ny134.out] at ho;have n0_ := Aside0.mk (Kd.S_after (ok := (fun k_ => some k_ ≠ (.slice Ao21 t127.length co21 : Value).ownBlock ∧ some k_ ≠ (v131 : Value).ownBlock)) (by (with_reducible repeat (first|apply Kd.S_alloc|apply Kd.S_drewN|apply Kd.S_drew));exact Kd.S_mono HO_8.out (fun _ hk => ⟨⟨hk.1.2,hk.2⟩,hk.1.1⟩)) hg hat);have n1_ := Aside0.mk (blk_grown (g := gb126) (o := .cells #[.int .i64 ((rd_T38 l1 x33_2).f0),.int .i64 ((rd_T38 l1 x33_2).f1),.int .i64 ((rd_T38 l1 x33_2).f2),.slice A125_3 ((rd_T38 l1 x33_2).f3).length c125_3,.int .i64 ((rd_T38 l1 x33_2).f4)] 38 (0,0)) (by (with_reducible repeat (first|refine blk_drewN ?_ _|refine blk_drew ?_|refine blk_alloc ?_ _));exact BK126.out) hg (Kd.S_ne HO_7.out BK126.out (by decide)));have n2_ := Aside0.mk (Kd.R_over' (by (with_reducible repeat (first|apply Kd.R_alloc|apply Kd.R_drewN|apply Kd.R_drew));exact HO132.out) (Kd.S_typed (by (with_reducible repeat (first|apply Kd.S_alloc|apply Kd.S_drewN|apply Kd.S_drew));exact HO_7.out)) (by decide) hg);have n3_ := Aside0.mk (hb);have n4_ := Aside0.mk (ho);clear HO_8;clear BK126;clear HO132;clear HB;clear HO_7;clear HO129;have HO_8 := n0_;have BK126 := n1_;have HO132 := n2_;have HB := n3_;have HO136 := n4_;clear n0_ n1_ n2_ n3_ n4_;clear ho hb hg hat;obtain ⟨Ao26,co26,eo26⟩ := Kd.R_slice HO132.out;subst eo26)|((with_reducible refine gate_builtin (b := .append) (xs := #[.tmp 67,.tmp 69]) rfl ?_);(try (refine gate_guard (by rfl) ?_;dsimp only));at_builtin;refine Kd.S_append (Kd.slice 5 (Kd.int .u8)) (w0 := w) w.heap.size rfl (.tmp 67) (.tmp 69) 25 36 (.slice none 0 0) 24 rfl Try.underlying25 info36 rfl (by decide) (by omega) u8 x8_2 t130 [.slice Ao26 t130.length co26] (fun k_ => some k_ ≠ (v135 : Value).ownBlock) (fun k_ => some k_ = (.slice Ao26 t130.length co26 : Value).ownBlock) rfl rfl ?aP (fun k_ hk_ => ((Kd.R_mono (ok' := fun k_ => ((fun k_ => some k_ ≠ (v135 : Value).ownBlock)) k_ ∧ some k_ ≠ (u8 : Value).ownBlock) (Kd.R_apart' (Kd.R_apart' (HO132.out) (Kd.S_typed HO136.out) (by decide)) (Kd.S_typed HO_8.out) (by decide)) (fun k_ hk => ⟨hk.1.2,hk.2⟩))).1 k_ hk_.symm) ?aF ?aO ?aB ?aS ?aL ?_;(case aP => exact Kd.M_row (Kd.R_mono (Kd.R_tight rfl (Kd.R_mono (ok' := fun k_ => ((fun k_ => some k_ ≠ (v135 : Value).ownBlock)) k_ ∧ some k_ ≠ (u8 : Value).ownBlock) (Kd.R_apart' (Kd.R_apart' (HO132.out) (Kd.S_typed HO136.out) (by decide)) (Kd.S_typed HO_8.out) (by decide)) (fun k_ hk => ⟨hk.1.2,hk.2⟩))) (fun _ h_ => h_)));(case aB => exact (by repeat (first|(with_reducible first|exact HB.out|apply below_alloc|apply pw_below_drewN|apply below_drew1|refine below_set ?_ GE126.out)|exact HB.out)));(case aF => exact (fun k_ hk => Kd.fresh' (Kd.S_lt (by (with_reducible repeat (first|apply Kd.S_alloc|apply Kd.S_drewN|apply Kd.S_drew));exact HO136.out)) k_ hk));(case aO => exact (by (with_reducible repeat (first|apply Kd.S_alloc|apply Kd.S_drewN|apply Kd.S_drew));exact Kd.S_mono HO_8.out (fun k_ hk => ⟨hk.2,fun e_ => hk.1.2 e_⟩)));(case aS => exact (below_size (by repeat (first|(with_reducible first|exact HB.out|apply below_alloc|apply pw_below_drewN|apply below_drew1|refine below_set ?_ GE126.out)|exact HB.out))));(case aL => have := LMc16.out;omega);intro v138 w25 ho hb hg hat;rw [← Ny137.out] at ho;have n0_ := Aside0.mk (blk_grown (g := gb126) (o := .cells #[.int .i64 ((rd_T38 l1 x33_2).f0),.int .i64 ((rd_T38 l1 x33_2).f1),.int .i64 ((rd_T38 l1 x33_2).f2),.slice A125_3 ((rd_T38 l1 x33_2).f3).length c125_3,.int .i64 ((rd_T38 l1 x33_2).f4)] 38 (0,0)) (by (with_reducible repeat (first|refine blk_drewN ?_ _|refine blk_drew ?_|refine blk_alloc ?_ _));exact BK126.out) hg (Kd.S_ne HO_8.out BK126.out (by decide)));have n1_ := Aside0.mk (Kd.S_after (ok := (fun k_ => some k_ ≠ (.slice Ao26 t130.length co26 : Value).ownBlock)) (by (with_reducible repeat (first|apply Kd.S_alloc|apply Kd.S_drewN|apply Kd.S_drew));exact Kd.S_mono HO136.out (fun _ hk => ⟨hk.2,hk.1⟩)) hg hat);have n2_ := Aside0.mk (hb);have n3_ := Aside0.mk (ho);clear BK126;clear HO136;clear HB;clear HO_8;clear HO132;have BK126 := n0_;have HO136 := n1_;have HB := n2_;have HO139 := n3_;clear n0_ n1_ n2_ n3_;clear ho hb hg hat))
             go_roundg k2
             case measure => have := HJ2.out; have := HK2.out; omega
             case rel => exact ⟨(y134),(y137),(wrap64 (x33_2 + 1)),(by first|rfl|(simp;done)|(simp [*];done)),H',⟨by have := HJ2.out;have := HK2.out;omega⟩,⟨by (with_reducible repeat (first|apply Kd.S_alloc|apply Kd.S_drewN|apply Kd.S_drew));exact Kd.S_mono HO136.out (fun _ hk => hk.2)⟩,⟨by (with_reducible repeat (first|apply Kd.S_alloc|apply Kd.S_drewN|apply Kd.S_drew));exact HO139.out⟩,⟨by repeat (first|(with_reducible first|exact HB.out|apply below_alloc|apply pw_below_drewN|apply below_drew1|refine below_set ?_ GE126.out)|exact HB.out)⟩⟩
            ·rw [if_neg c16] at H
             exact absurd H (by simp)
           ·rw [if_neg c15] at H
            exact absurd H (by simp)
          ·rw [if_neg c14] at H
           have c14b0 : (((rd_T38 l1 x33_2).f0) == 1) = false := beq_eq_false_iff_ne.mpr c14
           have c14b1 : (((rd_T38 l1 x33_2).f0) != 1) = true := bne_iff_ne.mpr c14
           by_cases c27 : ((rd_T38 l1 x33_2).f0) = 2
           ·rw [if_pos c27] at H
            have c27b0 : (((rd_T38 l1 x33_2).f0) == 2) = true := beq_iff_eq.mpr c27
            have c27b1 : (((rd_T38 l1 x33_2).f0) != 2) = false := bne_eq_false_iff_eq.mpr c27
            clear c27
            by_cases c28 : x7_2.length < 5864062014805
            ·rw [if_pos c28] at H
             have LMc28 := Aside0.mk c28
             clear c28
             obtain ⟨y140, hy140⟩ : ∃ y_ : List (List Int), y_ = (x7_2 ++ [t127]) := ⟨_, rfl⟩
             replace H : (if x8_2.length < 5864062014805 then (page_Build.l0 k2 a0 y140 (x8_2 ++ [t130]) l1 (l1.length : Int) (wrap64 (x33_2 + 1))) else (none)) = some (r1,r2,r3) := by first|(rw [hy140];with_reducible exact H)|(have H2_ := (Option.bind_some _ _).symm.trans H;rw [hy140];with_reducible exact H2_)|(have H2_ := (Option.bind_some _ _).symm.trans H;with_reducible exact H2_)|with_reducible exact H|(rw [hy140];exact H)|exact H
             have Ny140 := Aside0.mk hy140
             clear hy140
             by_cases c29 : x8_2.length < 5864062014805
             ·rw [if_pos c29] at H
              have LMc29 := Aside0.mk c29
              clear c29
              obtain ⟨y143, hy143⟩ : ∃ y_ : List (List Int), y_ = (x8_2 ++ [t130]) := ⟨_, rfl⟩
              replace H : (page_Build.l0 k2 a0 y140 y143 l1 (l1.length : Int) (wrap64 (x33_2 + 1))) = some (r1,r2,r3) := by first|(rw [hy143];with_reducible exact H)|(have H2_ := (Option.bind_some _ _).symm.trans H;rw [hy143];with_reducible exact H2_)|(have H2_ := (Option.bind_some _ _).symm.trans H;with_reducible exact H2_)|with_reducible exact H|(rw [hy143];exact H)|exact H
              have Ny143 := Aside0.mk hy143
              clear hy143
              have H' := Aside0.mk H
              clear H
              have p125 : 0 ≤ (x33_2 : Int) := of_decide_eq_true (by first | (with_reducible assumption) | assumption)
              have q125 : x33_2 < (l1.length : Int) := of_decide_eq_true (by first|(with_reducible assumption)|assumption)
              obtain ⟨ad125,A125_3,c125_3,e125,hx125_0,hx125_1,hx125_2,hx125_3,hx125_4,hl125_3,hi125_3⟩ := at_T38 HR1.out x33_2 p125 q125
              cases e125
              replace hx125_0 := (HB.out.cell (World.block_lt_of_cell? w _ hx125_0)).trans hx125_0
              replace hx125_1 := (HB.out.cell (World.block_lt_of_cell? w _ hx125_1)).trans hx125_1
              replace hx125_2 := (HB.out.cell (World.block_lt_of_cell? w _ hx125_2)).trans hx125_2
              replace hx125_3 := (HB.out.cell (World.block_lt_of_cell? w _ hx125_3)).trans hx125_3
              replace hx125_4 := (HB.out.cell (World.block_lt_of_cell? w _ hx125_4)).trans hx125_4
              have HR125_3 := Aside0.mk hi125_3
              have HC125_3 := Aside0.mk hl125_3
              clear hi125_3 hl125_3
              replace p125 := eq_true p125
              replace q125 := eq_true q125
              go_wp2_with (first|((with_reducible refine gate_dst (N := 10) rfl ?_);(try (refine gate_guard (by rfl) ?_;dsimp only));refine box_event ?hg (N := 10) ?hd (cs := #[.int .i64 0,.int .i64 0,.int .i64 0,.slice none 0 0,.int .i64 0]) (t := 38) ?hr ?_;(case hd => rfl);(case hg => rfl);(case hr => first|(go_simp;done)|(go_simp;rfl));intro gb126 hg w30 hbox hb;have n0_ := Aside0.mk (Kd.S_below (by (with_reducible repeat (first|apply Kd.S_alloc|apply Kd.S_drewN|apply Kd.S_drew));exact HO_7.out) hb);have n1_ := Aside0.mk (Kd.S_below (by (with_reducible repeat (first|apply Kd.S_alloc|apply Kd.S_drewN|apply Kd.S_drew));exact HO_8.out) hb);have n2_ := Aside0.mk (below_step (by repeat (first|(with_reducible first|exact HB.out|apply below_alloc|apply pw_below_drewN|apply below_drew1)|exact HB.out)) hb);have n3_ := Aside0.mk (hbox);have n4_ := Aside0.mk ((by rw [hg];exact (below_size (by repeat (first|(with_reducible first|exact HB.out|apply below_alloc|apply pw_below_drewN|apply below_drew1)|exact HB.out))) : w.heap.size ≤ gb126));have n5_ := Aside0.mk ((by rw [hg];exact (below_size (by repeat (first|(with_reducible first|exact HB.out|apply below_alloc|apply pw_below_drewN|apply below_drew1)|exact HB.out))) : w.heap.size ≤ gb126));clear HO_7;clear HO_8;clear HB;have HO_7 := n0_;have HO_8 := n1_;have HB := n2_;have BK126 := n3_;have GW126 := n4_;have GE126 := n5_;clear n0_ n1_ n2_ n3_ n4_ n5_;clear hb hbox hg;have hcz31_0 : w30.cell? ⟨gb126,0,none⟩ = some (.int .i64 0) := (blk_cell BK126.out 0).trans rfl;have hcz31_1 : w30.cell? ⟨gb126,1,none⟩ = some (.int .i64 0) := (blk_cell BK126.out 1).trans rfl;have hcz31_2 : w30.cell? ⟨gb126,2,none⟩ = some (.int .i64 0) := (blk_cell BK126.out 2).trans rfl;have hcz31_3 : w30.cell? ⟨gb126,3,none⟩ = some (.slice none 0 0) := (blk_cell BK126.out 3).trans rfl;have hcz31_4 : w30.cell? ⟨gb126,4,none⟩ = some (.int .i64 0) := (blk_cell BK126.out 4).trans rfl;have hfz31_0 := blk_frozen BK126.out 0;have hfz31_1 := blk_frozen BK126.out 1;have hfz31_2 := blk_frozen BK126.out 2;have hfz31_3 := blk_frozen BK126.out 3;have hfz31_4 := blk_frozen BK126.out 4)|((with_reducible refine gate_callee (f := 21) rfl ?_);refine goesL_ (some 38) rfl rfl Try.func21 (by kernel_rfl) rfl #[.agg #[.int .i64 ((rd_T38 l1 x33_2).f0),.int .i64 ((rd_T38 l1 x33_2).f1),.int .i64 ((rd_T38 l1 x33_2).f2),.slice A125_3 ((rd_T38 l1 x33_2).f3).length c125_3,.int .i64 ((rd_T38 l1 x33_2).f4)]] rfl (by (try simp only [List.map_toArray,List.map_cons,List.map_nil]);first|done|rfl|(simp only [List.length_drop,List.length_take];rfl)) ?_;(with_reducible refine (page_sector.calls ((rd_T38 l1 x33_2).f0) ((rd_T38 l1 x33_2).f1) ((rd_T38 l1 x33_2).f2) _ _ ((rd_T38 l1 x33_2).f3) ((rd_T38 l1 x33_2).f4) t127 _ ?side1 ?side2 A11.out).mono ?_);(case side1 => exact Kd.C_below HR125_3.out (by repeat (first|(with_reducible first|exact HB.out|apply below_alloc|apply pw_below_drewN|apply below_drew1|refine below_set ?_ GE126.out)|exact HB.out)));(case side2 => exact HC125_3.out);rintro e w32 ⟨v128,rfl,ho0,hb⟩;refine ⟨_,rfl,?_⟩;have n0_ := Aside0.mk (Kd.S_elder' (by (with_reducible repeat (first|apply Kd.S_alloc|apply Kd.S_drewN|apply Kd.S_drew));exact (Kd.S_mono (Kd.S_far (p := ⟨gb126,4,none⟩) (Kd.S_far (p := ⟨gb126,3,none⟩) (Kd.S_far (p := ⟨gb126,2,none⟩) (Kd.S_far (p := ⟨gb126,1,none⟩) (Kd.S_far (p := ⟨gb126,0,none⟩) (Kd.S_types HO_7.out BK126.out (by decide)) (fun _ hk => hk.2) (.int .i64 ((rd_T38 l1 x33_2).f0))) (fun _ hk => hk.2) (.int .i64 ((rd_T38 l1 x33_2).f1))) (fun _ hk => hk.2) (.int .i64 ((rd_T38 l1 x33_2).f2))) (fun _ hk => hk.2) (.slice A125_3 ((rd_T38 l1 x33_2).f3).length c125_3)) (fun _ hk => hk.2) (.int .i64 ((rd_T38 l1 x33_2).f4))) (fun _ h_ => h_.1))) (Kd.R_base ho0) hb);have n1_ := Aside0.mk (Kd.S_elder' (by (with_reducible repeat (first|apply Kd.S_alloc|apply Kd.S_drewN|apply Kd.S_drew));exact (Kd.S_mono (Kd.S_far (p := ⟨gb126,4,none⟩) (Kd.S_far (p := ⟨gb126,3,none⟩) (Kd.S_far (p := ⟨gb126,2,none⟩) (Kd.S_far (p := ⟨gb126,1,none⟩) (Kd.S_far (p := ⟨gb126,0,none⟩) (Kd.S_types HO_8.out BK126.out (by decide)) (fun _ hk => hk.2) (.int .i64 ((rd_T38 l1 x33_2).f0))) (fun _ hk => hk.2) (.int .i64 ((rd_T38 l1 x33_2).f1))) (fun _ hk => hk.2) (.int .i64 ((rd_T38 l1 x33_2).f2))) (fun _ hk => hk.2) (.slice A125_3 ((rd_T38 l1 x33_2).f3).length c125_3)) (fun _ hk => hk.2) (.int .i64 ((rd_T38 l1 x33_2).f4))) (fun _ h_ => h_.1))) (Kd.R_base ho0) hb);have n2_ := Aside0.mk (Kd.R_lower ho0 (below_size (by repeat (first|(with_reducible first|exact HB.out|apply below_alloc|apply pw_below_drewN|apply below_drew1|refine below_set ?_ GE126.out)|exact HB.out))));have n3_ := Aside0.mk (blk_below (g := gb126) (o := .cells #[.int .i64 ((rd_T38 l1 x33_2).f0),.int .i64 ((rd_T38 l1 x33_2).f1),.int .i64 ((rd_T38 l1 x33_2).f2),.slice A125_3 ((rd_T38 l1 x33_2).f3).length c125_3,.int .i64 ((rd_T38 l1 x33_2).f4)] 38 (0,0)) (by (with_reducible repeat (first|refine blk_drewN ?_ _|refine blk_drew ?_|refine blk_alloc ?_ _));refine blk_put (cs := #[.int .i64 ((rd_T38 l1 x33_2).f0),.int .i64 ((rd_T38 l1 x33_2).f1),.int .i64 ((rd_T38 l1 x33_2).f2),.slice A125_3 ((rd_T38 l1 x33_2).f3).length c125_3,.int .i64 0]) ?_ 4 _ rfl;(with_reducible repeat (first|refine blk_drewN ?_ _|refine blk_drew ?_|refine blk_alloc ?_ _));refine blk_put (cs := #[.int .i64 ((rd_T38 l1 x33_2).f0),.int .i64 ((rd_T38 l1 x33_2).f1),.int .i64 ((rd_T38 l1 x33_2).f2),.slice none 0 0,.int .i64 0]) ?_ 3 _ rfl;(with_reducible repeat (first|refine blk_drewN ?_ _|refine blk_drew ?_|refine blk_alloc ?_ _));refine blk_put (cs := #[.int .i64 ((rd_T38 l1 x33_2).f0),.int .i64 ((rd_T38 l1 x33_2).f1),.int .i64 0,.slice none 0 0,.int .i64 0]) ?_ 2 _ rfl;(with_reducible repeat (first|refine blk_drewN ?_ _|refine blk_drew ?_|refine blk_alloc ?_ _));refine blk_put (cs := #[.int .i64 ((rd_T38 l1 x33_2).f0),.int .i64 0,.int .i64 0,.slice none 0 0,.int .i64 0]) ?_ 1 _ rfl;(with_reducible repeat (first|refine blk_drewN ?_ _|refine blk_drew ?_|refine blk_alloc ?_ _));refine blk_put (cs := #[.int .i64 0,.int .i64 0,.int .i64 0,.slice none 0 0,.int .i64 0]) ?_ 0 _ rfl;(with_reducible repeat (first|refine blk_drewN ?_ _|refine blk_drew ?_|refine blk_alloc ?_ _));exact BK126.out) hb);have n4_ := Aside0.mk (below_step (by repeat (first|(with_reducible first|exact HB.out|apply below_alloc|apply pw_below_drewN|apply below_drew1|refine below_set ?_ GE126.out)|exact HB.out)) hb);clear HO_7;clear HO_8;clear BK126;clear HB;have HO_7 := n0_;have HO_8 := n1_;have HO129 := n2_;have BK126 := n3_;have HB := n4_;clear n0_ n1_ n2_ n3_ n4_;(try clear hb);(try clear hb2);(try clear hk);(try clear hi);(try clear ho0);have hcz33_0 : w32.cell? ⟨gb126,0,none⟩ = some (.int .i64 ((rd_T38 l1 x33_2).f0)) := (blk_cell BK126.out 0).trans rfl;have hcz33_1 : w32.cell? ⟨gb126,1,none⟩ = some (.int .i64 ((rd_T38 l1 x33_2).f1)) := (blk_cell BK126.out 1).trans rfl;have hcz33_2 : w32.cell? ⟨gb126,2,none⟩ = some (.int .i64 ((rd_T38 l1 x33_2).f2)) := (blk_cell BK126.out 2).trans rfl;have hcz33_3 : w32.cell? ⟨gb126,3,none⟩ = some (.slice A125_3 ((rd_T38 l1 x33_2).f3).length c125_3) := (blk_cell BK126.out 3).trans rfl;have hcz33_4 : w32.cell? ⟨gb126,4,none⟩ = some (.int .i64 ((rd_T38 l1 x33_2).f4)) := (blk_cell BK126.out 4).trans rfl;have hfz33_0 := blk_frozen BK126.out 0;have hfz33_1 := blk_frozen BK126.out 1;have hfz33_2 := blk_frozen BK126.out 2;have hfz33_3 := blk_frozen BK126.out 3;have hfz33_4 := blk_frozen BK126.out 4;obtain ⟨Ao34,co34,eo34⟩ := Kd.R_slice HO129.out;subst eo34)|((with_reducible refine gate_callee (f := 22) rfl ?_);refine goesL_ (some 48) rfl rfl Try.func22 (by kernel_rfl) rfl #[.agg #[.int .i64 ((rd_T38 l1 x33_2).f0),.int .i64 ((rd_T38 l1 x33_2).f1),.int .i64 ((rd_T38 l1 x33_2).f2)],.slice Ao34 t127.length co34] rfl (by (try simp only [List.map_toArray,List.map_cons,List.map_nil]);first|done|rfl|(simp only [List.length_drop,List.length_take];rfl)) ?_;(with_reducible refine (oob_Pack.calls k2 ((rd_T38 l1 x33_2).f0) ((rd_T38 l1 x33_2).f1) ((rd_T38 l1 x33_2).f2) _ _ t127 t130 t133 _ ?side1 ?side2 A12.out).mono ?_);(case side1 => repeat (first|exact (Kd.R_reads' HO129.out).2.2|(with_reducible refine Kd.C_alloc ?_ _)|(with_reducible refine Kd.C_drewN ?_ _)|(with_reducible refine Kd.C_drew ?_)));(case side2 => exact (Kd.R_reads' HO129.out).2.1);rintro e w35 ⟨v131,rfl,ho0,hb⟩;refine ⟨_,rfl,?_⟩;have n0_ := Aside0.mk (Kd.S_elder' (by (with_reducible repeat (first|apply Kd.S_alloc|apply Kd.S_drewN|apply Kd.S_drew));exact HO_7.out) (Kd.R_base ho0) hb);have n1_ := Aside0.mk (Kd.S_elder' (by (with_reducible repeat (first|apply Kd.S_alloc|apply Kd.S_drewN|apply Kd.S_drew));exact HO_8.out) (Kd.R_base ho0) hb);have n2_ := Aside0.mk (Kd.R_elder' (by (with_reducible repeat (first|apply Kd.R_alloc|apply Kd.R_drewN|apply Kd.R_drew));exact HO129.out) (Kd.R_base ho0) hb);have n3_ := Aside0.mk (Kd.R_lower (Kd.R_new' ho0 (Kd.R_lt (by (with_reducible repeat (first|apply Kd.R_alloc|apply Kd.R_drewN|apply Kd.R_drew));exact HO129.out))) (below_size (by repeat (first|(with_reducible first|exact HB.out|apply below_alloc|apply pw_below_drewN|apply below_drew1|refine below_set ?_ GE126.out)|exact HB.out))));have n4_ := Aside0.mk (blk_below (g := gb126) (o := .cells #[.int .i64 ((rd_T38 l1 x33_2).f0),.int .i64 ((rd_T38 l1 x33_2).f1),.int .i64 ((rd_T38 l1 x33_2).f2),.slice A125_3 ((rd_T38 l1 x33_2).f3).length c125_3,.int .i64 ((rd_T38 l1 x33_2).f4)] 38 (0,0)) (by (with_reducible repeat (first|refine blk_drewN ?_ _|refine blk_drew ?_|refine blk_alloc ?_ _));exact BK126.out) hb);have n5_ := Aside0.mk (below_step (by repeat (first|(with_reducible first|exact HB.out|apply below_alloc|apply pw_below_drewN|apply below_drew1|refine below_set ?_ GE126.out)|exact HB.out)) hb);clear HO_7;clear HO_8;clear HO129;clear BK126;clear HB;have HO_7 := n0_;have HO_8 := n1_;have HO129 := n2_;have HO132 := n3_;have BK126 := n4_;have HB := n5_;clear n0_ n1_ n2_ n3_ n4_ n5_;(try clear hb);(try clear hb2);(try clear hk);(try clear hi);(try clear ho0);have hcz36_0 : w35.cell? ⟨gb126,0,none⟩ = some (.int .i64 ((rd_T38 l1 x33_2).f0)) := (blk_cell BK126.out 0).trans rfl;have hcz36_1 : w35.cell? ⟨gb126,1,none⟩ = some (.int .i64 ((rd_T38 l1 x33_2).f1)) := (blk_cell BK126.out 1).trans rfl;have hcz36_2 : w35.cell? ⟨gb126,2,none⟩ = some (.int .i64 ((rd_T38 l1 x33_2).f2)) := (blk_cell BK126.out 2).trans rfl;have hcz36_3 : w35.cell? ⟨gb126,3,none⟩ = some (.slice A125_3 ((rd_T38 l1 x33_2).f3).length c125_3) := (blk_cell BK126.out 3).trans rfl;have hcz36_4 : w35.cell? ⟨gb126,4,none⟩ = some (.int .i64 ((rd_T38 l1 x33_2).f4)) := (blk_cell BK126.out 4).trans rfl;have hfz36_0 := blk_frozen BK126.out 0;have hfz36_1 := blk_frozen BK126.out 1;have hfz36_2 := blk_frozen BK126.out 2;have hfz36_3 := blk_frozen BK126.out 3;have hfz36_4 := blk_frozen BK126.out 4)|((with_reducible refine gate_builtin (b := .append) (xs := #[.tmp 63,.tmp 65]) rfl ?_);(try (refine gate_guard (by rfl) ?_;dsimp only));at_builtin;refine Kd.S_append (Kd.slice 5 (Kd.int .u8)) (w0 := w) w.heap.size rfl (.tmp 63) (.tmp 65) 25 36 (.slice none 0 0) 24 rfl Try.underlying25 info36 rfl (by decide) (by omega) u7 x7_2 t127 [.slice Ao34 t127.length co34] (fun k_ => some k_ ≠ (u8 : Value).ownBlock ∧ some k_ ≠ (v131 : Value).ownBlock) (fun k_ => some k_ = (.slice Ao34 t127.length co34 : Value).ownBlock) rfl rfl ?aP (fun k_ hk_ => ((Kd.R_mono (ok' := fun k_ => ((fun k_ => some k_ ≠ (u8 : Value).ownBlock ∧ some k_ ≠ (v131 : Value).ownBlock)) k_ ∧ some k_ ≠ (u7 : Value).ownBlock) (Kd.R_apart' (Kd.R_apart' (HO129.out) (Kd.S_typed HO_8.out) (by decide)) (Kd.S_typed HO_7.out) (by decide)) (fun k_ hk => ⟨⟨hk.1.2,hk.1.1.2⟩,hk.2⟩))).1 k_ hk_.symm) ?aF ?aO ?aB ?aS ?aL ?_;(case aP => exact Kd.M_row (Kd.R_mono (Kd.R_tight rfl (Kd.R_mono (ok' := fun k_ => ((fun k_ => some k_ ≠ (u8 : Value).ownBlock ∧ some k_ ≠ (v131 : Value).ownBlock)) k_ ∧ some k_ ≠ (u7 : Value).ownBlock) (Kd.R_apart' (Kd.R_apart' (HO129.out) (Kd.S_typed HO_8.out) (by decide)) (Kd.S_typed HO_7.out) (by decide)) (fun k_ hk => ⟨⟨hk.1.2,hk.1.1.2⟩,hk.2⟩))) (fun _ h_ => h_)));(case aB => exact (by repeat (first|(with_reducible first|exact HB.out|apply below_alloc|apply pw_below_drewN|apply below_drew1|refine below_set ?_ GE126.out)|exact HB.out)));(case aF => exact (fun k_ hk => ⟨Kd.fresh' (Kd.S_lt (by (with_reducible repeat (first|apply Kd.S_alloc|apply Kd.S_drewN|apply Kd.S_drew));exact HO_8.out)) k_ hk,Kd.fresh' (Kd.R_lt (by (with_reducible repeat (first|apply Kd.R_alloc|apply Kd.R_drewN|apply Kd.R_drew));exact HO132.out)) k_ hk⟩));(case aO => exact (by (with_reducible repeat (first|apply Kd.S_alloc|apply Kd.S_drewN|apply Kd.S_drew));exact Kd.S_mono HO_7.out (fun k_ hk => ⟨⟨hk.1.1,hk.2⟩,fun e_ => hk.1.2 e_⟩)));(case aS => exact (below_size (by repeat (first|(with_reducible first|exact HB.out|apply below_alloc|apply pw_below_drewN|apply below_drew1|refine below_set ?_ GE126.out)|exact HB.out))));(case aL => have := LMc28.out;omega);intro v141 w37 ho hb hg hat;rw [← Ny140.out] at ho;have n0_ := Aside0.mk (Kd.S_after (ok := (fun k_ => some k_ ≠ (.slice Ao34 t127.length co34 : Value).ownBlock ∧ some k_ ≠ (v131 : Value).ownBlock)) (by (with_reducible repeat (first|apply Kd.S_alloc|apply Kd.S_drewN|apply Kd.S_drew));exact Kd.S_mono HO_8.out (fun _ hk => ⟨⟨hk.1.2,hk.2⟩,hk.1.1⟩)) hg hat);have n1_ := Aside0.mk (blk_grown (g := gb126) (o := .cells #[.int .i64 ((rd_T38 l1 x33_2).f0),.int .i64 ((rd_T38 l1 x33_2).f1),.int .i64 ((rd_T38 l1 x33_2).f2),.slice A125_3 ((rd_T38 l1 x33_2).f3).length c125_3,.int .i64 ((rd_T38 l1 x33_2).f4)] 38 (0,0)) (by (with_reducible repeat (first|refine blk_drewN ?_ _|refine blk_drew ?_|refine blk_alloc ?_ _));exact BK126.out) hg (Kd.S_ne HO_7.out BK126.out (by decide)));have n2_ := Aside0.mk (Kd.R_over' (by (with_reducible repeat (first|apply Kd.R_alloc|apply Kd.R_drewN|apply Kd.R_drew));exact HO132.out) (Kd.S_typed (by (with_reducible repeat (first|apply Kd.S_alloc|apply Kd.S_drewN|apply Kd.S_drew));exact HO_7.out)) (by decide) hg);have n3_ := Aside0.mk (hb);have n4_ := Aside0.mk (ho);clear HO_8;clear BK126;clear HO132;clear HB;clear HO_7;clear HO129;have HO_8 := n0_;have BK126 := n1_;have HO132 := n2_;have HB := n3_;have HO142 := n4_;clear n0_ n1_ n2_ n3_ n4_;clear ho hb hg hat;obtain ⟨Ao39,co39,eo39⟩ := Kd.R_slice HO132.out;subst eo39)|((with_reducible refine gate_builtin (b := .append) (xs := #[.tmp 67,.tmp 69]) rfl ?_);(try (refine gate_guard (by rfl) ?_;dsimp only));at_builtin;refine Kd.S_append (Kd.slice 5 (Kd.int .u8)) (w0 := w) w.heap.size rfl (.tmp 67) (.tmp 69) 25 36 (.slice none 0 0) 24 rfl Try.underlying25 info36 rfl (by decide) (by omega) u8 x8_2 t130 [.slice Ao39 t130.length co39] (fun k_ => some k_ ≠ (v141 : Value).ownBlock) (fun k_ => some k_ = (.slice Ao39 t130.length co39 : Value).ownBlock) rfl rfl ?aP (fun k_ hk_ => ((Kd.R_mono (ok' := fun k_ => ((fun k_ => some k_ ≠ (v141 : Value).ownBlock)) k_ ∧ some k_ ≠ (u8 : Value).ownBlock) (Kd.R_apart' (Kd.R_apart' (HO132.out) (Kd.S_typed HO142.out) (by decide)) (Kd.S_typed HO_8.out) (by decide)) (fun k_ hk => ⟨hk.1.2,hk.2⟩))).1 k_ hk_.symm) ?aF ?aO ?aB ?aS ?aL ?_;(case aP => exact Kd.M_row (Kd.R_mono (Kd.R_tight rfl (Kd.R_mono (ok' := fun k_ => ((fun k_ => some k_ ≠ (v141 : Value).ownBlock)) k_ ∧ some k_ ≠ (u8 : Value).ownBlock) (Kd.R_apart' (Kd.R_apart' (HO132.out) (Kd.S_typed HO142.out) (by decide)) (Kd.S_typed HO_8.out) (by decide)) (fun k_ hk => ⟨hk.1.2,hk.2⟩))) (fun _ h_ => h_)));(case aB => exact (by repeat (first|(with_reducible first|exact HB.out|apply below_alloc|apply pw_below_drewN|apply below_drew1|refine below_set ?_ GE126.out)|exact HB.out)));(case aF => exact (fun k_ hk => Kd.fresh' (Kd.S_lt (by (with_reducible repeat (first|apply Kd.S_alloc|apply Kd.S_drewN|apply Kd.S_drew));exact HO142.out)) k_ hk));(case aO => exact (by (with_reducible repeat (first|apply Kd.S_alloc|apply Kd.S_drewN|apply Kd.S_drew));exact Kd.S_mono HO_8.out (fun k_ hk => ⟨hk.2,fun e_ => hk.1.2 e_⟩)));(case aS => exact (below_size (by repeat (first|(with_reducible first|exact HB.out|apply below_alloc|apply pw_below_drewN|apply below_drew1|refine below_set ?_ GE126.out)|exact HB.out))));(case aL => have := LMc29.out;omega);intro v144 w38 ho hb hg hat;rw [← Ny143.out] at ho;have n0_ := Aside0.mk (blk_grown (g := gb126) (o := .cells #[.int .i64 ((rd_T38 l1 x33_2).f0),.int .i64 ((rd_T38 l1 x33_2).f1),.int .i64 ((rd_T38 l1 x33_2).f2),.slice A125_3 ((rd_T38 l1 x33_2).f3).length c125_3,.int .i64 ((rd_T38 l1 x33_2).f4)] 38 (0,0)) (by (with_reducible repeat (first|refine blk_drewN ?_ _|refine blk_drew ?_|refine blk_alloc ?_ _));exact BK126.out) hg (Kd.S_ne HO_8.out BK126.out (by decide)));have n1_ := Aside0.mk (Kd.S_after (ok := (fun k_ => some k_ ≠ (.slice Ao39 t130.length co39 : Value).ownBlock)) (by (with_reducible repeat (first|apply Kd.S_alloc|apply Kd.S_drewN|apply Kd.S_drew));exact Kd.S_mono HO142.out (fun _ hk => ⟨hk.2,hk.1⟩)) hg hat);have n2_ := Aside0.mk (hb);have n3_ := Aside0.mk (ho);clear BK126;clear HO142;clear HB;clear HO_8;clear HO132;have BK126 := n0_;have HO142 := n1_;have HB := n2_;have HO145 := n3_;clear n0_ n1_ n2_ n3_;clear ho hb hg hat))
              go_roundg k2
              case measure => have := HJ2.out; have := HK2.out; omega
              case rel => exact ⟨(y140),(y143),(wrap64 (x33_2 + 1)),(by first|rfl|(simp;done)|(simp [*];done)),H',⟨by have := HJ2.out;have := HK2.out;omega⟩,⟨by (with_reducible repeat (first|apply Kd.S_alloc|apply Kd.S_drewN|apply Kd.S_drew));exact Kd.S_mono HO142.out (fun _ hk => hk.2)⟩,⟨by (with_reducible repeat (first|apply Kd.S_alloc|apply Kd.S_drewN|apply Kd.S_drew));exact HO145.out⟩,⟨by repeat (first|(with_reducible first|exact HB.out|apply below_alloc|apply pw_below_drewN|apply below_drew1|refine below_set ?_ GE126.out)|exact HB.out)⟩⟩
             ·rw [if_neg c29] at H
              exact absurd H (by simp)
            ·rw [if_neg c28] at H
             exact absurd H (by simp)
           ·rw [if_neg c27] at H
            have c27b0 : (((rd_T38 l1 x33_2).f0) == 2) = false := beq_eq_false_iff_ne.mpr c27
            have c27b1 : (((rd_T38 l1 x33_2).f0) != 2) = true := bne_iff_ne.mpr c27
            simp only [Option.some.injEq, Prod.mk.injEq] at H
            obtain ⟨rfl, rfl, rfl⟩ := H
            have p125 : 0 ≤ (x33_2 : Int) := of_decide_eq_true (by first | (with_reducible assumption) | assumption)
            have q125 : x33_2 < (l1.length : Int) := of_decide_eq_true (by first|(with_reducible assumption)|assumption)
            obtain ⟨ad125,A125_3,c125_3,e125,hx125_0,hx125_1,hx125_2,hx125_3,hx125_4,hl125_3,hi125_3⟩ := at_T38 HR1.out x33_2 p125 q125
            cases e125
            replace hx125_0 := (HB.out.cell (World.block_lt_of_cell? w _ hx125_0)).trans hx125_0
            replace hx125_1 := (HB.out.cell (World.block_lt_of_cell? w _ hx125_1)).trans hx125_1
            replace hx125_2 := (HB.out.cell (World.block_lt_of_cell? w _ hx125_2)).trans hx125_2
            replace hx125_3 := (HB.out.cell (World.block_lt_of_cell? w _ hx125_3)).trans hx125_3
            replace hx125_4 := (HB.out.cell (World.block_lt_of_cell? w _ hx125_4)).trans hx125_4
            have HR125_3 := Aside0.mk hi125_3
            have HC125_3 := Aside0.mk hl125_3
            clear hi125_3 hl125_3
            replace p125 := eq_true p125
            replace q125 := eq_true q125
            go_wp2_with (first|((with_reducible refine gate_dst (N := 10) rfl ?_);(try (refine gate_guard (by rfl) ?_;dsimp only));refine box_event ?hg (N := 10) ?hd (cs := #[.int .i64 0,.int .i64 0,.int .i64 0,.slice none 0 0,.int .i64 0]) (t := 38) ?hr ?_;(case hd => rfl);(case hg => rfl);(case hr => first|(go_simp;done)|(go_simp;rfl));intro gb126 hg w40 hbox hb;have n0_ := Aside0.mk (Kd.S_below (by (with_reducible repeat (first|apply Kd.S_alloc|apply Kd.S_drewN|apply Kd.S_drew));exact HO_7.out) hb);have n1_ := Aside0.mk (Kd.S_below (by (with_reducible repeat (first|apply Kd.S_alloc|apply Kd.S_drewN|apply Kd.S_drew));exact HO_8.out) hb);have n2_ := Aside0.mk (below_step (by repeat (first|(with_reducible first|exact HB.out|apply below_alloc|apply pw_below_drewN|apply below_drew1)|exact HB.out)) hb);have n3_ := Aside0.mk (hbox);have n4_ := Aside0.mk ((by rw [hg];exact (below_size (by repeat (first|(with_reducible first|exact HB.out|apply below_alloc|apply pw_below_drewN|apply below_drew1)|exact HB.out))) : w.heap.size ≤ gb126));have n5_ := Aside0.mk ((by rw [hg];exact (below_size (by repeat (first|(with_reducible first|exact HB.out|apply below_alloc|apply pw_below_drewN|apply below_drew1)|exact HB.out))) : w.heap.size ≤ gb126));clear HO_7;clear HO_8;clear HB;have HO_7 := n0_;have HO_8 := n1_;have HB := n2_;have BK126 := n3_;have GW126 := n4_;have GE126 := n5_;clear n0_ n1_ n2_ n3_ n4_ n5_;clear hb hbox hg;have hcz41_0 : w40.cell? ⟨gb126,0,none⟩ = some (.int .i64 0) := (blk_cell BK126.out 0).trans rfl;have hcz41_1 : w40.cell? ⟨gb126,1,none⟩ = some (.int .i64 0) := (blk_cell BK126.out 1).trans rfl;have hcz41_2 : w40.cell? ⟨gb126,2,none⟩ = some (.int .i64 0) := (blk_cell BK126.out 2).trans rfl;have hcz41_3 : w40.cell? ⟨gb126,3,none⟩ = some (.slice none 0 0) := (blk_cell BK126.out 3).trans rfl;have hcz41_4 : w40.cell? ⟨gb126,4,none⟩ = some (.int .i64 0) := (blk_cell BK126.out 4).trans rfl;have hfz41_0 := blk_frozen BK126.out 0;have hfz41_1 := blk_frozen BK126.out 1;have hfz41_2 := blk_frozen BK126.out 2;have hfz41_3 := blk_frozen BK126.out 3;have hfz41_4 := blk_frozen BK126.out 4)|((with_reducible refine gate_callee (f := 21) rfl ?_);refine goesL_ (some 38) rfl rfl Try.func21 (by kernel_rfl) rfl #[.agg #[.int .i64 ((rd_T38 l1 x33_2).f0),.int .i64 ((rd_T38 l1 x33_2).f1),.int .i64 ((rd_T38 l1 x33_2).f2),.slice A125_3 ((rd_T38 l1 x33_2).f3).length c125_3,.int .i64 ((rd_T38 l1 x33_2).f4)]] rfl (by (try simp only [List.map_toArray,List.map_cons,List.map_nil]);first|done|rfl|(simp only [List.length_drop,List.length_take];rfl)) ?_;(with_reducible refine (page_sector.calls ((rd_T38 l1 x33_2).f0) ((rd_T38 l1 x33_2).f1) ((rd_T38 l1 x33_2).f2) _ _ ((rd_T38 l1 x33_2).f3) ((rd_T38 l1 x33_2).f4) t127 _ ?side1 ?side2 A11.out).mono ?_);(case side1 => exact Kd.C_below HR125_3.out (by repeat (first|(with_reducible first|exact HB.out|apply below_alloc|apply pw_below_drewN|apply below_drew1|refine below_set ?_ GE126.out)|exact HB.out)));(case side2 => exact HC125_3.out);rintro e w42 ⟨v128,rfl,ho0,hb⟩;refine ⟨_,rfl,?_⟩;have n0_ := Aside0.mk (Kd.S_elder' (by (with_reducible repeat (first|apply Kd.S_alloc|apply Kd.S_drewN|apply Kd.S_drew));exact (Kd.S_mono (Kd.S_far (p := ⟨gb126,4,none⟩) (Kd.S_far (p := ⟨gb126,3,none⟩) (Kd.S_far (p := ⟨gb126,2,none⟩) (Kd.S_far (p := ⟨gb126,1,none⟩) (Kd.S_far (p := ⟨gb126,0,none⟩) (Kd.S_types HO_7.out BK126.out (by decide)) (fun _ hk => hk.2) (.int .i64 ((rd_T38 l1 x33_2).f0))) (fun _ hk => hk.2) (.int .i64 ((rd_T38 l1 x33_2).f1))) (fun _ hk => hk.2) (.int .i64 ((rd_T38 l1 x33_2).f2))) (fun _ hk => hk.2) (.slice A125_3 ((rd_T38 l1 x33_2).f3).length c125_3)) (fun _ hk => hk.2) (.int .i64 ((rd_T38 l1 x33_2).f4))) (fun _ h_ => h_.1))) (Kd.R_base ho0) hb);have n1_ := Aside0.mk (Kd.S_elder' (by (with_reducible repeat (first|apply Kd.S_alloc|apply Kd.S_drewN|apply Kd.S_drew));exact (Kd.S_mono (Kd.S_far (p := ⟨gb126,4,none⟩) (Kd.S_far (p := ⟨gb126,3,none⟩) (Kd.S_far (p := ⟨gb126,2,none⟩) (Kd.S_far (p := ⟨gb126,1,none⟩) (Kd.S_far (p := ⟨gb126,0,none⟩) (Kd.S_types HO_8.out BK126.out (by decide)) (fun _ hk => hk.2) (.int .i64 ((rd_T38 l1 x33_2).f0))) (fun _ hk => hk.2) (.int .i64 ((rd_T38 l1 x33_2).f1))) (fun _ hk => hk.2) (.int .i64 ((rd_T38 l1 x33_2).f2))) (fun _ hk => hk.2) (.slice A125_3 ((rd_T38 l1 x33_2).f3).length c125_3)) (fun _ hk => hk.2) (.int .i64 ((rd_T38 l1 x33_2).f4))) (fun _ h_ => h_.1))) (Kd.R_base ho0) hb);have n2_ := Aside0.mk (Kd.R_lower ho0 (below_size (by repeat (first|(with_reducible first|exact HB.out|apply below_alloc|apply pw_below_drewN|apply below_drew1|refine below_set ?_ GE126.out)|exact HB.out))));have n3_ := Aside0.mk (blk_below (g := gb126) (o := .cells #[.int .i64 ((rd_T38 l1 x33_2).f0),.int .i64 ((rd_T38 l1 x33_2).f1),.int .i64 ((rd_T38 l1 x33_2).f2),.slice A125_3 ((rd_T38 l1 x33_2).f3).length c125_3,.int .i64 ((rd_T38 l1 x33_2).f4)] 38 (0,0)) (by (with_reducible repeat (first|refine blk_drewN ?_ _|refine blk_drew ?_|refine blk_alloc ?_ _));refine blk_put (cs := #[.int .i64 ((rd_T38 l1 x33_2).f0),.int .i64 ((rd_T38 l1 x33_2).f1),.int .i64 ((rd_T38 l1 x33_2).f2),.slice A125_3 ((rd_T38 l1 x33_2).f3).length c125_3,.int .i64 0]) ?_ 4 _ rfl;(with_reducible repeat (first|refine blk_drewN ?_ _|refine blk_drew ?_|refine blk_alloc ?_ _));refine blk_put (cs := #[.int .i64 ((rd_T38 l1 x33_2).f0),.int .i64 ((rd_T38 l1 x33_2).f1),.int .i64 ((rd_T38 l1 x33_2).f2),.slice none 0 0,.int .i64 0]) ?_ 3 _ rfl;(with_reducible repeat (first|refine blk_drewN ?_ _|refine blk_drew ?_|refine blk_alloc ?_ _));refine blk_put (cs := #[.int .i64 ((rd_T38 l1 x33_2).f0),.int .i64 ((rd_T38 l1 x33_2).f1),.int .i64 0,.slice none 0 0,.int .i64 0]) ?_ 2 _ rfl;(with_reducible repeat (first|refine blk_drewN ?_ _|refine blk_drew ?_|refine blk_alloc ?_ _));refine blk_put (cs := #[.int .i64 ((rd_T38 l1 x33_2).f0),.int .i64 0,.int .i64 0,.slice none 0 0,.int .i64 0]) ?_ 1 _ rfl;(with_reducible repeat (first|refine blk_drewN ?_ _|refine blk_drew ?_|refine blk_alloc ?_ _));refine blk_put (cs := #[.int .i64 0,.int .i64 0,.int .i64 0,.slice none 0 0,.int .i64 0]) ?_ 0 _ rfl;(with_reducible repeat (first|refine blk_drewN ?_ _|refine blk_drew ?_|refine blk_alloc ?_ _));exact BK126.out) hb);have n4_ := Aside0.mk (below_step (by repeat (first|(with_reducible first|exact HB.out|apply below_alloc|apply pw_below_drewN|apply below_drew1|refine below_set ?_ GE126.out)|exact HB.out)) hb);clear HO_7;clear HO_8;clear BK126;clear HB;have HO_7 := n0_;have HO_8 := n1_;have HO129 := n2_;have BK126 := n3_;have HB := n4_;clear n0_ n1_ n2_ n3_ n4_;(try clear hb);(try clear hb2);(try clear hk);(try clear hi);(try clear ho0);have hcz43_0 : w42.cell? ⟨gb126,0,none⟩ = some (.int .i64 ((rd_T38 l1 x33_2).f0)) := (blk_cell BK126.out 0).trans rfl;have hcz43_1 : w42.cell? ⟨gb126,1,none⟩ = some (.int .i64 ((rd_T38 l1 x33_2).f1)) := (blk_cell BK126.out 1).trans rfl;have hcz43_2 : w42.cell? ⟨gb126,2,none⟩ = some (.int .i64 ((rd_T38 l1 x33_2).f2)) := (blk_cell BK126.out 2).trans rfl;have hcz43_3 : w42.cell? ⟨gb126,3,none⟩ = some (.slice A125_3 ((rd_T38 l1 x33_2).f3).length c125_3) := (blk_cell BK126.out 3).trans rfl;have hcz43_4 : w42.cell? ⟨gb126,4,none⟩ = some (.int .i64 ((rd_T38 l1 x33_2).f4)) := (blk_cell BK126.out 4).trans rfl;have hfz43_0 := blk_frozen BK126.out 0;have hfz43_1 := blk_frozen BK126.out 1;have hfz43_2 := blk_frozen BK126.out 2;have hfz43_3 := blk_frozen BK126.out 3;have hfz43_4 := blk_frozen BK126.out 4;obtain ⟨Ao44,co44,eo44⟩ := Kd.R_slice HO129.out;subst eo44)|((with_reducible refine gate_callee (f := 22) rfl ?_);refine goesL_ (some 48) rfl rfl Try.func22 (by kernel_rfl) rfl #[.agg #[.int .i64 ((rd_T38 l1 x33_2).f0),.int .i64 ((rd_T38 l1 x33_2).f1),.int .i64 ((rd_T38 l1 x33_2).f2)],.slice Ao44 t127.length co44] rfl (by (try simp only [List.map_toArray,List.map_cons,List.map_nil]);first|done|rfl|(simp only [List.length_drop,List.length_take];rfl)) ?_;(with_reducible refine (oob_Pack.calls k2 ((rd_T38 l1 x33_2).f0) ((rd_T38 l1 x33_2).f1) ((rd_T38 l1 x33_2).f2) _ _ t127 t130 t133 _ ?side1 ?side2 A12.out).mono ?_);(case side1 => repeat (first|exact (Kd.R_reads' HO129.out).2.2|(with_reducible refine Kd.C_alloc ?_ _)|(with_reducible refine Kd.C_drewN ?_ _)|(with_reducible refine Kd.C_drew ?_)));(case side2 => exact (Kd.R_reads' HO129.out).2.1);rintro e w45 ⟨v131,rfl,ho0,hb⟩;refine ⟨_,rfl,?_⟩;have n0_ := Aside0.mk (Kd.S_elder' (by (with_reducible repeat (first|apply Kd.S_alloc|apply Kd.S_drewN|apply Kd.S_drew));exact HO_7.out) (Kd.R_base ho0) hb);have n1_ := Aside0.mk (Kd.S_elder' (by (with_reducible repeat (first|apply Kd.S_alloc|apply Kd.S_drewN|apply Kd.S_drew));exact HO_8.out) (Kd.R_base ho0) hb);have n2_ := Aside0.mk (Kd.R_elder' (by (with_reducible repeat (first|apply Kd.R_alloc|apply Kd.R_drewN|apply Kd.R_drew));exact HO129.out) (Kd.R_base ho0) hb);have n3_ := Aside0.mk (Kd.R_lower (Kd.R_new' ho0 (Kd.R_lt (by (with_reducible repeat (first|apply Kd.R_alloc|apply Kd.R_drewN|apply Kd.R_drew));exact HO129.out))) (below_size (by repeat (first|(with_reducible first|exact HB.out|apply below_alloc|apply pw_below_drewN|apply below_drew1|refine below_set ?_ GE126.out)|exact HB.out))));have n4_ := Aside0.mk (blk_below (g := gb126) (o := .cells #[.int .i64 ((rd_T38 l1 x33_2).f0),.int .i64 ((rd_T38 l1 x33_2).f1),.int .i64 ((rd_T38 l1 x33_2).f2),.slice A125_3 ((rd_T38 l1 x33_2).f3).length c125_3,.int .i64 ((rd_T38 l1 x33_2).f4)] 38 (0,0)) (by (with_reducible repeat (first|refine blk_drewN ?_ _|refine blk_drew ?_|refine blk_alloc ?_ _));exact BK126.out) hb);have n5_ := Aside0.mk (below_step (by repeat (first|(with_reducible first|exact HB.out|apply below_alloc|apply pw_below_drewN|apply below_drew1|refine below_set ?_ GE126.out)|exact HB.out)) hb);clear HO_7;clear HO_8;clear HO129;clear BK126;clear HB;have HO_7 := n0_;have HO_8 := n1_;have HO129 := n2_;have HO132 := n3_;have BK126 := n4_;have HB := n5_;clear n0_ n1_ n2_ n3_ n4_ n5_;(try clear hb);(try clear hb2);(try clear hk);(try clear hi);(try clear ho0);have hcz46_0 : w45.cell? ⟨gb126,0,none⟩ = some (.int .i64 ((rd_T38 l1 x33_2).f0)) := (blk_cell BK126.out 0).trans rfl;have hcz46_1 : w45.cell? ⟨gb126,1,none⟩ = some (.int .i64 ((rd_T38 l1 x33_2).f1)) := (blk_cell BK126.out 1).trans rfl;have hcz46_2 : w45.cell? ⟨gb126,2,none⟩ = some (.int .i64 ((rd_T38 l1 x33_2).f2)) := (blk_cell BK126.out 2).trans rfl;have hcz46_3 : w45.cell? ⟨gb126,3,none⟩ = some (.slice A125_3 ((rd_T38 l1 x33_2).f3).length c125_3) := (blk_cell BK126.out 3).trans rfl;have hcz46_4 : w45.cell? ⟨gb126,4,none⟩ = some (.int .i64 ((rd_T38 l1 x33_2).f4)) := (blk_cell BK126.out 4).trans rfl;have hfz46_0 := blk_frozen BK126.out 0;have hfz46_1 := blk_frozen BK126.out 1;have hfz46_2 := blk_frozen BK126.out 2;have hfz46_3 := blk_frozen BK126.out 3;have hfz46_4 := blk_frozen BK126.out 4))
            go_ret3
            exact ⟨_,_,by first|rfl|(simp [errW_none,errW_some] <;> rfl)|(simp [*,errW_none,errW_some] <;> rfl),by first|exact Kd.S_nil _ _ _ _ _|exact Kd.N_nil _ _ _ _ _|exact Kd.V_nil _ _ _ _ _|exact Kd.Q_nil _ _ _ _ _|exact Kd.R_nil _ _ _ _ _,by first|exact Kd.S_nil _ _ _ _ _|exact Kd.N_nil _ _ _ _ _|exact Kd.V_nil _ _ _ _ _|exact Kd.Q_nil _ _ _ _ _|exact Kd.R_nil _ _ _ _ _,by repeat (first|(with_reducible first|exact HB.out|apply below_alloc|apply pw_below_drewN|apply below_drew1|refine below_set ?_ GE126.out)|exact HB.out)⟩
         ·rw [if_neg c13] at H
          have c13b0 : (t133 == 0) = false := beq_eq_false_iff_ne.mpr c13
          have c13b1 : (t133 != 0) = true := bne_iff_ne.mpr c13
          simp only [Option.some.injEq, Prod.mk.injEq] at H
          obtain ⟨rfl, rfl, rfl⟩ := H
          have p125 : 0 ≤ (x33_2 : Int) := of_decide_eq_true (by first | (with_reducible assumption) | assumption)
          have q125 : x33_2 < (l1.length : Int) := of_decide_eq_true (by first|(with_reducible assumption)|assumption)
          obtain ⟨ad125,A125_3,c125_3,e125,hx125_0,hx125_1,hx125_2,hx125_3,hx125_4,hl125_3,hi125_3⟩ := at_T38 HR1.out x33_2 p125 q125
          cases e125
          replace hx125_0 := (HB.out.cell (World.block_lt_of_cell? w _ hx125_0)).trans hx125_0
          replace hx125_1 := (HB.out.cell (World.block_lt_of_cell? w _ hx125_1)).trans hx125_1
          replace hx125_2 := (HB.out.cell (World.block_lt_of_cell? w _ hx125_2)).trans hx125_2
          replace hx125_3 := (HB.out.cell (World.block_lt_of_cell? w _ hx125_3)).trans hx125_3
          replace hx125_4 := (HB.out.cell (World.block_lt_of_cell? w _ hx125_4)).trans hx125_4
          have HR125_3 := Aside0.mk hi125_3
          have HC125_3 := Aside0.mk hl125_3
          clear hi125_3 hl125_3
          replace p125 := eq_true p125
          replace q125 := eq_true q125
          go_wp2_with (first|((with_reducible refine gate_dst (N := 10) rfl ?_);(try (refine gate_guard (by rfl) ?_;dsimp only));refine box_event ?hg (N := 10) ?hd (cs := #[.int .i64 0,.int .i64 0,.int .i64 0,.slice none 0 0,.int .i64 0]) (t := 38) ?hr ?_;(case hd => rfl);(case hg => rfl);(case hr => first|(go_simp;done)|(go_simp;rfl));intro gb126 hg w47 hbox hb;have n0_ := Aside0.mk (Kd.S_below (by (with_reducible repeat (first|apply Kd.S_alloc|apply Kd.S_drewN|apply Kd.S_drew));exact HO_7.out) hb);have n1_ := Aside0.mk (Kd.S_below (by (with_reducible repeat (first|apply Kd.S_alloc|apply Kd.S_drewN|apply Kd.S_drew));exact HO_8.out) hb);have n2_ := Aside0.mk (below_step (by repeat (first|(with_reducible first|exact HB.out|apply below_alloc|apply pw_below_drewN|apply below_drew1)|exact HB.out)) hb);have n3_ := Aside0.mk (hbox);have n4_ := Aside0.mk ((by rw [hg];exact (below_size (by repeat (first|(with_reducible first|exact HB.out|apply below_alloc|apply pw_below_drewN|apply below_drew1)|exact HB.out))) : w.heap.size ≤ gb126));have n5_ := Aside0.mk ((by rw [hg];exact (below_size (by repeat (first|(with_reducible first|exact HB.out|apply below_alloc|apply pw_below_drewN|apply below_drew1)|exact HB.out))) : w.heap.size ≤ gb126));clear HO_7;clear HO_8;clear HB;have HO_7 := n0_;have HO_8 := n1_;have HB := n2_;have BK126 := n3_;have GW126 := n4_;have GE126 := n5_;clear n0_ n1_ n2_ n3_ n4_ n5_;clear hb hbox hg;have hcz48_0 : w47.cell? ⟨gb126,0,none⟩ = some (.int .i64 0) := (blk_cell BK126.out 0).trans rfl;have hcz48_1 : w47.cell? ⟨gb126,1,none⟩ = some (.int .i64 0) := (blk_cell BK126.out 1).trans rfl;have hcz48_2 : w47.cell? ⟨gb126,2,none⟩ = some (.int .i64 0) := (blk_cell BK126.out 2).trans rfl;have hcz48_3 : w47.cell? ⟨gb126,3,none⟩ = some (.slice none 0 0) := (blk_cell BK126.out 3).trans rfl;have hcz48_4 : w47.cell? ⟨gb126,4,none⟩ = some (.int .i64 0) := (blk_cell BK126.out 4).trans rfl;have hfz48_0 := blk_frozen BK126.out 0;have hfz48_1 := blk_frozen BK126.out 1;have hfz48_2 := blk_frozen BK126.out 2;have hfz48_3 := blk_frozen BK126.out 3;have hfz48_4 := blk_frozen BK126.out 4)|((with_reducible refine gate_callee (f := 21) rfl ?_);refine goesL_ (some 38) rfl rfl Try.func21 (by kernel_rfl) rfl #[.agg #[.int .i64 ((rd_T38 l1 x33_2).f0),.int .i64 ((rd_T38 l1 x33_2).f1),.int .i64 ((rd_T38 l1 x33_2).f2),.slice A125_3 ((rd_T38 l1 x33_2).f3).length c125_3,.int .i64 ((rd_T38 l1 x33_2).f4)]] rfl (by (try simp only [List.map_toArray,List.map_cons,List.map_nil]);first|done|rfl|(simp only [List.length_drop,List.length_take];rfl)) ?_;(with_reducible refine (page_sector.calls ((rd_T38 l1 x33_2).f0) ((rd_T38 l1 x33_2).f1) ((rd_T38 l1 x33_2).f2) _ _ ((rd_T38 l1 x33_2).f3) ((rd_T38 l1 x33_2).f4) t127 _ ?side1 ?side2 A11.out).mono ?_);(case side1 => exact Kd.C_below HR125_3.out (by repeat (first|(with_reducible first|exact HB.out|apply below_alloc|apply pw_below_drewN|apply below_drew1|refine below_set ?_ GE126.out)|exact HB.out)));(case side2 => exact HC125_3.out);rintro e w49 ⟨v128,rfl,ho0,hb⟩;refine ⟨_,rfl,?_⟩;have n0_ := Aside0.mk (Kd.S_elder' (by (with_reducible repeat (first|apply Kd.S_alloc|apply Kd.S_drewN|apply Kd.S_drew));exact (Kd.S_mono (Kd.S_far (p := ⟨gb126,4,none⟩) (Kd.S_far (p := ⟨gb126,3,none⟩) (Kd.S_far (p := ⟨gb126,2,none⟩) (Kd.S_far (p := ⟨gb126,1,none⟩) (Kd.S_far (p := ⟨gb126,0,none⟩) (Kd.S_types HO_7.out BK126.out (by decide)) (fun _ hk => hk.2) (.int .i64 ((rd_T38 l1 x33_2).f0))) (fun _ hk => hk.2) (.int .i64 ((rd_T38 l1 x33_2).f1))) (fun _ hk => hk.2) (.int .i64 ((rd_T38 l1 x33_2).f2))) (fun _ hk => hk.2) (.slice A125_3 ((rd_T38 l1 x33_2).f3).length c125_3)) (fun _ hk => hk.2) (.int .i64 ((rd_T38 l1 x33_2).f4))) (fun _ h_ => h_.1))) (Kd.R_base ho0) hb);have n1_ := Aside0.mk (Kd.S_elder' (by (with_reducible repeat (first|apply Kd.S_alloc|apply Kd.S_drewN|apply Kd.S_drew));exact (Kd.S_mono (Kd.S_far (p := ⟨gb126,4,none⟩) (Kd.S_far (p := ⟨gb126,3,none⟩) (Kd.S_far (p := ⟨gb126,2,none⟩) (Kd.S_far (p := ⟨gb126,1,none⟩) (Kd.S_far (p := ⟨gb126,0,none⟩) (Kd.S_types HO_8.out BK126.out (by decide)) (fun _ hk => hk.2) (.int .i64 ((rd_T38 l1 x33_2).f0))) (fun _ hk => hk.2) (.int .i64 ((rd_T38 l1 x33_2).f1))) (fun _ hk => hk.2) (.int .i64 ((rd_T38 l1 x33_2).f2))) (fun _ hk => hk.2) (.slice A125_3 ((rd_T38 l1 x33_2).f3).length c125_3)) (fun _ hk => hk.2) (.int .i64 ((rd_T38 l1 x33_2).f4))) (fun _ h_ => h_.1))) (Kd.R_base ho0) hb);have n2_ := Aside0.mk (Kd.R_lower ho0 (below_size (by repeat (first|(with_reducible first|exact HB.out|apply below_alloc|apply pw_below_drewN|apply below_drew1|refine below_set ?_ GE126.out)|exact HB.out))));have n3_ := Aside0.mk (blk_below (g := gb126) (o := .cells #[.int .i64 ((rd_T38 l1 x33_2).f0),.int .i64 ((rd_T38 l1 x33_2).f1),.int .i64 ((rd_T38 l1 x33_2).f2),.slice A125_3 ((rd_T38 l1 x33_2).f3).length c125_3,.int .i64 ((rd_T38 l1 x33_2).f4)] 38 (0,0)) (by (with_reducible repeat (first|refine blk_drewN ?_ _|refine blk_drew ?_|refine blk_alloc ?_ _));refine blk_put (cs := #[.int .i64 ((rd_T38 l1 x33_2).f0),.int .i64 ((rd_T38 l1 x33_2).f1),.int .i64 ((rd_T38 l1 x33_2).f2),.slice A125_3 ((rd_T38 l1 x33_2).f3).length c125_3,.int .i64 0]) ?_ 4 _ rfl;(with_reducible repeat (first|refine blk_drewN ?_ _|refine blk_drew ?_|refine blk_alloc ?_ _));refine blk_put (cs := #[.int .i64 ((rd_T38 l1 x33_2).f0),.int .i64 ((rd_T38 l1 x33_2).f1),.int .i64 ((rd_T38 l1 x33_2).f2),.slice none 0 0,.int .i64 0]) ?_ 3 _ rfl;(with_reducible repeat (first|refine blk_drewN ?_ _|refine blk_drew ?_|refine blk_alloc ?_ _));refine blk_put (cs := #[.int .i64 ((rd_T38 l1 x33_2).f0),.int .i64 ((rd_T38 l1 x33_2).f1),.int .i64 0,.slice none 0 0,.int .i64 0]) ?_ 2 _ rfl;(with_reducible repeat (first|refine blk_drewN ?_ _|refine blk_drew ?_|refine blk_alloc ?_ _));refine blk_put (cs := #[.int .i64 ((rd_T38 l1 x33_2).f0),.int .i64 0,.int .i64 0,.slice none 0 0,.int .i64 0]) ?_ 1 _ rfl;(with_reducible repeat (first|refine blk_drewN ?_ _|refine blk_drew ?_|refine blk_alloc ?_ _));refine blk_put (cs := #[.int .i64 0,.int .i64 0,.int .i64 0,.slice none 0 0,.int .i64 0]) ?_ 0 _ rfl;(with_reducible repeat (first|refine blk_drewN ?_ _|refine blk_drew ?_|refine blk_alloc ?_ _));exact BK126.out) hb);have n4_ := Aside0.mk (below_step (by repeat (first|(with_reducible first|exact HB.out|apply below_alloc|apply pw_below_drewN|apply below_drew1|refine below_set ?_ GE126.out)|exact HB.out)) hb);clear HO_7;clear HO_8;clear BK126;clear HB;have HO_7 := n0_;have HO_8 := n1_;have HO129 := n2_;have BK126 := n3_;have HB := n4_;clear n0_ n1_ n2_ n3_ n4_;(try clear hb);(try clear hb2);(try clear hk);(try clear hi);(try clear ho0);have hcz50_0 : w49.cell? ⟨gb126,0,none⟩ = some (.int .i64 ((rd_T38 l1 x33_2).f0)) := (blk_cell BK126.out 0).trans rfl;have hcz50_1 : w49.cell? ⟨gb126,1,none⟩ = some (.int .i64 ((rd_T38 l1 x33_2).f1)) := (blk_cell BK126.out 1).trans rfl;have hcz50_2 : w49.cell? ⟨gb126,2,none⟩ = some (.int .i64 ((rd_T38 l1 x33_2).f2)) := (blk_cell BK126.out 2).trans rfl;have hcz50_3 : w49.cell? ⟨gb126,3,none⟩ = some (.slice A125_3 ((rd_T38 l1 x33_2).f3).length c125_3) := (blk_cell BK126.out 3).trans rfl;have hcz50_4 : w49.cell? ⟨gb126,4,none⟩ = some (.int .i64 ((rd_T38 l1 x33_2).f4)) := (blk_cell BK126.out 4).trans rfl;have hfz50_0 := blk_frozen BK126.out 0;have hfz50_1 := blk_frozen BK126.out 1;have hfz50_2 := blk_frozen BK126.out 2;have hfz50_3 := blk_frozen BK126.out 3;have hfz50_4 := blk_frozen BK126.out 4;obtain ⟨Ao51,co51,eo51⟩ := Kd.R_slice HO129.out;subst eo51)|((with_reducible refine gate_callee (f := 22) rfl ?_);refine goesL_ (some 48) rfl rfl Try.func22 (by kernel_rfl) rfl #[.agg #[.int .i64 ((rd_T38 l1 x33_2).f0),.int .i64 ((rd_T38 l1 x33_2).f1),.int .i64 ((rd_T38 l1 x33_2).f2)],.slice Ao51 t127.length co51] rfl (by (try simp only [List.map_toArray,List.map_cons,List.map_nil]);first|done|rfl|(simp only [List.length_drop,List.length_take];rfl)) ?_;(with_reducible refine (oob_Pack.calls k2 ((rd_T38 l1 x33_2).f0) ((rd_T38 l1 x33_2).f1) ((rd_T38 l1 x33_2).f2) _ _ t127 t130 t133 _ ?side1 ?side2 A12.out).mono ?_);(case side1 => repeat (first|exact (Kd.R_reads' HO129.out).2.2|(with_reducible refine Kd.C_alloc ?_ _)|(with_reducible refine Kd.C_drewN ?_ _)|(with_reducible refine Kd.C_drew ?_)));(case side2 => exact (Kd.R_reads' HO129.out).2.1);rintro e w52 ⟨v131,rfl,ho0,hb⟩;refine ⟨_,rfl,?_⟩;have n0_ := Aside0.mk (Kd.S_elder' (by (with_reducible repeat (first|apply Kd.S_alloc|apply Kd.S_drewN|apply Kd.S_drew));exact HO_7.out) (Kd.R_base ho0) hb);have n1_ := Aside0.mk (Kd.S_elder' (by (with_reducible repeat (first|apply Kd.S_alloc|apply Kd.S_drewN|apply Kd.S_drew));exact HO_8.out) (Kd.R_base ho0) hb);have n2_ := Aside0.mk (Kd.R_elder' (by (with_reducible repeat (first|apply Kd.R_alloc|apply Kd.R_drewN|apply Kd.R_drew));exact HO129.out) (Kd.R_base ho0) hb);have n3_ := Aside0.mk (Kd.R_lower (Kd.R_new' ho0 (Kd.R_lt (by (with_reducible repeat (first|apply Kd.R_alloc|apply Kd.R_drewN|apply Kd.R_drew));exact HO129.out))) (below_size (by repeat (first|(with_reducible first|exact HB.out|apply below_alloc|apply pw_below_drewN|apply below_drew1|refine below_set ?_ GE126.out)|exact HB.out))));have n4_ := Aside0.mk (blk_below (g := gb126) (o := .cells #[.int .i64 ((rd_T38 l1 x33_2).f0),.int .i64 ((rd_T38 l1 x33_2).f1),.int .i64 ((rd_T38 l1 x33_2).f2),.slice A125_3 ((rd_T38 l1 x33_2).f3).length c125_3,.int .i64 ((rd_T38 l1 x33_2).f4)] 38 (0,0)) (by (with_reducible repeat (first|refine blk_drewN ?_ _|refine blk_drew ?_|refine blk_alloc ?_ _));exact BK126.out) hb);have n5_ := Aside0.mk (below_step (by repeat (first|(with_reducible first|exact HB.out|apply below_alloc|apply pw_below_drewN|apply below_drew1|refine below_set ?_ GE126.out)|exact HB.out)) hb);clear HO_7;clear HO_8;clear HO129;clear BK126;clear HB;have HO_7 := n0_;have HO_8 := n1_;have HO129 := n2_;have HO132 := n3_;have BK126 := n4_;have HB := n5_;clear n0_ n1_ n2_ n3_ n4_ n5_;(try clear hb);(try clear hb2);(try clear hk);(try clear hi);(try clear ho0)))
          go_ret3
          exact ⟨_,_,by first|rfl|(simp [errW_none,errW_some] <;> rfl)|(simp [*,errW_none,errW_some] <;> rfl),by first|exact Kd.S_nil _ _ _ _ _|exact Kd.N_nil _ _ _ _ _|exact Kd.V_nil _ _ _ _ _|exact Kd.Q_nil _ _ _ _ _|exact Kd.R_nil _ _ _ _ _,by first|exact Kd.S_nil _ _ _ _ _|exact Kd.N_nil _ _ _ _ _|exact Kd.V_nil _ _ _ _ _|exact Kd.Q_nil _ _ _ _ _|exact Kd.R_nil _ _ _ _ _,by repeat (first|(with_reducible first|exact HB.out|apply below_alloc|apply pw_below_drewN|apply below_drew1|refine below_set ?_ GE126.out)|exact HB.out)⟩
        ·rw [if_neg c10] at H
         exact absurd H (by simp)
       ·rw [if_neg c9] at H
        exact absurd H (by simp)
      ·rw [if_neg c8] at H
       have c8b0 : decide (x33_2 < (l1.length : Int)) = false := decide_eq_false c8
       clear c8
       replace H := Option.bind_eq_some_iff.mp H
       obtain ⟨t117, A530, H⟩ := H
       replace H : ((page_filler_fill.f k2 t117 a0 x7_2 x8_2).bind fun bt118 => (some (bt118.1,bt118.2.1,bt118.2.2))) = some (r1,r2,r3) := H
       have A53 := Aside0.mk A530
       clear A530
       replace H := Option.bind_eq_some_iff.mp H
       obtain ⟨⟨t118, t119, t120⟩, A540, H⟩ := H
       replace H : (some (t118, t119, t120)) = some (r1, r2, r3) := H
       have A54 := Aside0.mk A540
       clear A540
       simp only [Option.some.injEq, Prod.mk.injEq] at H
       obtain ⟨rfl, rfl, rfl⟩ := H
       go_wp2_with (first|((with_reducible refine gate_callee (f := 23) rfl ?_);refine goesL_ (some 72) rfl rfl Try.func23 (by kernel_rfl) rfl #[] rfl (by (try simp only [List.map_toArray,List.map_cons,List.map_nil]);first|done|rfl|(simp only [List.length_drop,List.length_take];rfl)) ?_;(with_reducible refine (page_pads.calls  t117 _ A53.out).mono ?_);rintro e w55 ⟨rfl,hb⟩;refine ⟨_,rfl,?_⟩;have n0_ := Aside0.mk (Kd.S_below (by (with_reducible repeat (first|apply Kd.S_alloc|apply Kd.S_drewN|apply Kd.S_drew));exact HO_7.out) hb);have n1_ := Aside0.mk (Kd.S_below (by (with_reducible repeat (first|apply Kd.S_alloc|apply Kd.S_drewN|apply Kd.S_drew));exact HO_8.out) hb);have n2_ := Aside0.mk (below_step (by repeat (first|(with_reducible first|exact HB.out|apply below_alloc|apply pw_below_drewN|apply below_drew1)|exact HB.out)) hb);clear HO_7;clear HO_8;clear HB;have HO_7 := n0_;have HO_8 := n1_;have HB := n2_;clear n0_ n1_ n2_;(try clear hb);(try clear hb2);(try clear hk);(try clear hi);obtain ⟨Ao56,co56,eo56⟩ := Kd.S_slice HO_7.out;subst eo56;obtain ⟨Ao57,co57,eo57⟩ := Kd.S_slice HO_8.out;subst eo57)|((with_reducible refine gate_callee (f := 24) rfl ?_);refine goesL_ (some 76) rfl rfl Try.func24 (by kernel_rfl) rfl #[.agg #[.func (.func 39) #[] #[]],.int .i64 a0,.slice Ao56 x7_2.length co56,.slice Ao57 x8_2.length co57] rfl (by (try simp only [List.map_toArray,List.map_cons,List.map_nil]);first|done|rfl|(simp only [List.length_drop,List.length_take];rfl)) ?_;(refine (page_filler_fill.calls k2 t117 a0 (.slice Ao56 x7_2.length co56) (.slice Ao57 x8_2.length co57) x7_2 x8_2 t118 t119 t120 w _ ?side1 ?side2 ?side3 A54.out).mono ?_);(case side1 => exact (by repeat (first|(with_reducible first|exact HB.out|apply below_alloc|apply pw_below_drewN|apply below_drew1)|exact HB.out)));(case side2 => first|exact Kd.S_mono (HO_7.out) (fun k_ hk_ => hk_)|exact Kd.S_mono (by (with_reducible repeat (first|apply Kd.S_alloc|apply Kd.S_drewN|apply Kd.S_drew));exact HO_7.out) (fun k_ hk_ => hk_));(case side3 => first|exact Kd.S_mono (HO_8.out) (fun k_ hk_ => hk_)|exact Kd.S_mono (by (with_reducible repeat (first|apply Kd.S_alloc|apply Kd.S_drewN|apply Kd.S_drew));exact HO_8.out) (fun k_ hk_ => hk_));rintro e w58 ⟨v121,v123,rfl,ho0,ho1,hb⟩;refine ⟨_,rfl,?_⟩;have n0_ := Aside0.mk (ho0);have n1_ := Aside0.mk (ho1);have n2_ := Aside0.mk (hb);clear HB;have HO122 := n0_;have HO124 := n1_;have HB := n2_;clear n0_ n1_ n2_;(try clear hb);(try clear ho0);(try clear ho1)))
       go_ret3
       exact ⟨_,_,by first|rfl|(simp [errW_none,errW_some] <;> rfl)|(simp [*,errW_none,errW_some] <;> rfl),by (with_reducible repeat (first|apply Kd.S_alloc|apply Kd.S_drewN|apply Kd.S_drew));exact HO122.out,by (with_reducible repeat (first|apply Kd.S_alloc|apply Kd.S_drewN|apply Kd.S_drew));exact HO124.out,by repeat (first|(with_reducible first|exact HB.out|apply below_alloc|apply pw_below_drewN|apply below_drew1)|exact HB.out)⟩


/-! ### wire_TakeFixed: function 29 -/
def wire_TakeFixed.f (l0 : List Int) : Option (Int × Int) := if (l0.length : Int) < 4 then (some (0,3)) else (if 0 < (l0.length : Int) then (if 1 < (l0.length : Int) then (if 2 < (l0.length : Int) then (if 3 < (l0.length : Int) then (some (Go.bits .or .u32 (Go.bits .or .u32 (Go.bits .or .u32 ((rd l0 0) % 4294967296) ((((rd l0 1) % 4294967296) * 256) % 4294967296)) ((((rd l0 2) % 4294967296) * 65536) % 4294967296)) ((((rd l0 3) % 4294967296) * 16777216) % 4294967296),0)) else (none)) else (none)) else (none)) else (none))
set_option maxHeartbeats 8000000 in
set_option maxRecDepth 100000 in
theorem wire_TakeFixed.calls (A0 : Option Addr) (c0 : Nat) (l0 : List Int) (r1 : Int) (r2 : Int) (w : World) (hr0 : Kd.C (Kd.int .u8) w A0 l0.length l0) (hc0 : l0.length ≤ c0) (h : wire_TakeFixed.f l0 = some (r1,r2)) :
  Calls Try.prog 29 #[.slice A0 l0.length c0] w fun e w' => e = .returned (.tuple #[.int .u32 r1,.int .i64 r2]) ∧ Drawn0 w w' := by
 have HR0 := Aside0.mk hr0
 have HC0 := Aside0.mk hc0
 clear hr0 hc0
 have H : (if (l0.length : Int) < 4 then (some (0,3)) else (if 0 < (l0.length : Int) then (if 1 < (l0.length : Int) then (if 2 < (l0.length : Int) then (if 3 < (l0.length : Int) then (some (Go.bits .or .u32 (Go.bits .or .u32 (Go.bits .or .u32 ((rd l0 0) % 4294967296) ((((rd l0 1) % 4294967296) * 256) % 4294967296)) ((((rd l0 2) % 4294967296) * 65536) % 4294967296)) ((((rd l0 3) % 4294967296) * 16777216) % 4294967296),0)) else (none)) else (none)) else (none)) else (none))) = some (r1,r2) := h
 clear h
 by_cases c2 : (l0.length : Int) < 4
 ·rw [if_pos c2] at H
  have c2b0 : decide ((l0.length : Int) < 4) = true := decide_eq_true c2
  have c2b1 : decide (l0.length < 4) = true := decide_eq_true (by omega)
  clear c2
  simp only [Option.some.injEq, Prod.mk.injEq] at H
  obtain ⟨rfl, rfl⟩ := H
  go_enter Try.func29, Try.ntmps29
  go_wp2
  repeat (go_quiet (fail); try go_wp2)
  go_ret2
  exact ⟨by first | rfl | (simp; done) | (simp [*]; done), by repeat (first | exact Drawn0.refl _ | apply Drawn0.step)⟩
 ·rw [if_neg c2] at H
  have c2b0 : decide ((l0.length : Int) < 4) = false := decide_eq_false c2
  have c2b1 : decide (l0.length < 4) = false := decide_eq_false (by omega)
  clear c2
  by_cases c3 : 0 < (l0.length : Int)
  ·rw [if_pos c3] at H
   have c3b0 : decide (0 < (l0.length : Int)) = true := decide_eq_true c3
   have c3b1 : decide (0 < l0.length) = true := decide_eq_true (by omega)
   clear c3
   by_cases c4 : 1 < (l0.length : Int)
   ·rw [if_pos c4] at H
    have c4b0 : decide (1 < (l0.length : Int)) = true := decide_eq_true c4
    have c4b1 : decide (1 < l0.length) = true := decide_eq_true (by omega)
    clear c4
    by_cases c5 : 2 < (l0.length : Int)
    ·rw [if_pos c5] at H
     have c5b0 : decide (2 < (l0.length : Int)) = true := decide_eq_true c5
     have c5b1 : decide (2 < l0.length) = true := decide_eq_true (by omega)
     clear c5
     by_cases c6 : 3 < (l0.length : Int)
     ·rw [if_pos c6] at H
      have c6b0 : decide (3 < (l0.length : Int)) = true := decide_eq_true c6
      have c6b1 : decide (3 < l0.length) = true := decide_eq_true (by omega)
      clear c6
      simp only [Option.some.injEq, Prod.mk.injEq] at H
      obtain ⟨rfl, rfl⟩ := H
      have p146 : 0 ≤ (0 : Int) := (by omega)
      have q146 : 0 < (l0.length : Int) := of_decide_eq_true (by first | (with_reducible assumption) | assumption)
      obtain ⟨ad146, e146, hx146_0⟩ := Kd.at_int HR0.out 0 p146 q146
      cases e146
      have qi146 : (0 < l0.length) = True := eq_true (by omega)
      (try rw [show ((0 : Int)).toNat = 0 from rfl] at hx146_0)
      (try rw [Addr.add_zero'] at hx146_0)
      replace p146 := eq_true p146
      replace q146 := eq_true q146
      have p147 : 0 ≤ (1 : Int) := (by omega)
      have q147 : 1 < (l0.length : Int) := of_decide_eq_true (by first | (with_reducible assumption) | assumption)
      obtain ⟨ad147, e147, hx147_0⟩ := Kd.at_int HR0.out 1 p147 q147
      obtain rfl : ad146 = ad147 := (by injection e147)
      (try simp only [show (1 : Int).toNat = 1 from rfl,Nat.reduceMul,Nat.reduceEqDiff,Go.Addr.add,↓reduceIte] at hx147_0)
      have qi147 : (1 < l0.length) = True := eq_true (by omega)
      (try rw [show ((1 : Int)).toNat = 1 from rfl] at hx147_0)
      replace p147 := eq_true p147
      replace q147 := eq_true q147
      have p148 : 0 ≤ (2 : Int) := (by omega)
      have q148 : 2 < (l0.length : Int) := of_decide_eq_true (by first | (with_reducible assumption) | assumption)
      obtain ⟨ad148, e148, hx148_0⟩ := Kd.at_int HR0.out 2 p148 q148
      obtain rfl : ad146 = ad148 := (by injection e148)
      (try simp only [show (2 : Int).toNat = 2 from rfl,Nat.reduceMul,Nat.reduceEqDiff,Go.Addr.add,↓reduceIte] at hx148_0)
      have qi148 : (2 < l0.length) = True := eq_true (by omega)
      (try rw [show ((2 : Int)).toNat = 2 from rfl] at hx148_0)
      replace p148 := eq_true p148
      replace q148 := eq_true q148
      have p149 : 0 ≤ (3 : Int) := (by omega)
      have q149 : 3 < (l0.length : Int) := of_decide_eq_true (by first | (with_reducible assumption) | assumption)
      obtain ⟨ad149, e149, hx149_0⟩ := Kd.at_int HR0.out 3 p149 q149
      obtain rfl : ad146 = ad149 := (by injection e149)
      (try simp only [show (3 : Int).toNat = 3 from rfl,Nat.reduceMul,Nat.reduceEqDiff,Go.Addr.add,↓reduceIte] at hx149_0)
      have qi149 : (3 < l0.length) = True := eq_true (by omega)
      (try rw [show ((3 : Int)).toNat = 3 from rfl] at hx149_0)
      replace p149 := eq_true p149
      replace q149 := eq_true q149
      go_enter Try.func29, Try.ntmps29
      go_wp2
      repeat (go_quiet (fail); try go_wp2)
      go_ret2
      exact ⟨by first|rfl|(simp;done)|(simp [*];done),by repeat (first|exact Drawn0.refl _|apply Drawn0.step)⟩
     ·rw [if_neg c6] at H
      exact absurd H (by simp)
    ·rw [if_neg c5] at H
     exact absurd H (by simp)
   ·rw [if_neg c4] at H
    exact absurd H (by simp)
  ·rw [if_neg c3] at H
   exact absurd H (by simp)

end Go.Proofs.Ythoebkkohdfgeaa.X
