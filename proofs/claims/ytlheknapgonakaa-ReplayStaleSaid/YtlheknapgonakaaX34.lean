-- laid by wip/tools/xprint.py (our own changes over the printer)
import Derived.Test.YtlheknapgonakaaX0
import Derived.Test.YtlheknapgonakaaX1
import Derived.Test.YtlheknapgonakaaX9
import Derived.Test.YtlheknapgonakaaX33
namespace Go.Proofs.Ytlheknapgonakaa.X
open Go.RowKit Go.Proofs.YtlheknapgonakaaW.PrintWords Go.Proofs.YtlheknapgonakaaW.PrintLast Go.Proofs.YtlheknapgonakaaW.PrintMore
attribute [local go_sem] max2_int min2_int max_two min_two max_three min_three max_four min_four   -- for this text's walks alone
set_option linter.unusedVariables false
set_option linter.unusedSimpArgs false

/-! ### strakeref18_counts: function 21 -/
def strakeref18_counts.f (a0_0 : Int) (a0_1 : Int) (a0_2 : Int) (a0_3 : Int) (a0_4 : OSl) (a1 : Int) : Option (Bool) := if a0_1 = 1 then (if a0_2 ≥ 0 then (if a0_2 < a1 then (if a0_3 ≥ 1 then (if a0_3 ≤ 1125899906842624 then (some (decide (a0_0 ≥ 0))) else (some false)) else (some false)) else (some false)) else (some false)) else (if a0_1 = 2 then (if a0_2 ≥ 0 then (if a0_2 < a1 then (if a0_3 ≥ 1 then (if a0_3 ≤ 1125899906842624 then (some (decide (a0_0 ≥ 0))) else (some false)) else (some false)) else (some false)) else (some false)) else (some false))
set_option maxHeartbeats 8000000 in
set_option maxRecDepth 100000 in
theorem strakeref18_counts.calls (a0_0 : Int) (a0_1 : Int) (a0_2 : Int) (a0_3 : Int) (a0_4 : OSl) (a1 : Int) (r : Bool) (w : World) (h : strakeref18_counts.f a0_0 a0_1 a0_2 a0_3 a0_4 a1 = some r) :
  Calls Try.prog 21 #[.agg #[.int .i64 a0_0,.int .i64 a0_1,.int .i64 a0_2,.int .i64 a0_3,.slice a0_4.a a0_4.n a0_4.c],.int .i64 a1] w fun e w' => e = .returned (.bool r) ∧ Below w.heap.size w w' := by
 have hu27 := Try.underlying27
 have HB := Aside0.mk (Below.refl w.heap.size w)
 have H : (if a0_1 = 1 then (if a0_2 ≥ 0 then (if a0_2 < a1 then (if a0_3 ≥ 1 then (if a0_3 ≤ 1125899906842624 then (some (decide (a0_0 ≥ 0))) else (some false)) else (some false)) else (some false)) else (some false)) else (if a0_1 = 2 then (if a0_2 ≥ 0 then (if a0_2 < a1 then (if a0_3 ≥ 1 then (if a0_3 ≤ 1125899906842624 then (some (decide (a0_0 ≥ 0))) else (some false)) else (some false)) else (some false)) else (some false)) else (some false))) = some r := h
 clear h
 by_cases c3 : a0_1 = 1
 ·rw [if_pos c3] at H
  have c3b0 : (a0_1 == 1) = true := beq_iff_eq.mpr c3
  have c3b1 : (a0_1 != 1) = false := bne_eq_false_iff_eq.mpr c3
  clear c3
  by_cases c4 : a0_2 ≥ 0
  ·rw [if_pos c4] at H
   have c4b0 : decide (0 ≤ a0_2) = true := decide_eq_true c4
   clear c4
   by_cases c5 : a0_2 < a1
   ·rw [if_pos c5] at H
    have c5b0 : decide (a0_2 < a1) = true := decide_eq_true c5
    clear c5
    by_cases c6 : a0_3 ≥ 1
    ·rw [if_pos c6] at H
     have c6b0 : decide (1 ≤ a0_3) = true := decide_eq_true c6
     clear c6
     by_cases c7 : a0_3 ≤ 1125899906842624
     ·rw [if_pos c7] at H
      have c7b0 : decide (a0_3 ≤ 1125899906842624) = true := decide_eq_true c7
      clear c7
      obtain rfl := Option.some.inj H
      go_enter Try.func21, Try.ntmps21
      go_wp2_with (first|((with_reducible refine gate_dst (N := 2) rfl ?_);refine box_event ?hg (N := 2) ?hd (cs := #[.int .i64 a0_0,.int .i64 a0_1,.int .i64 a0_2,.int .i64 a0_3,.slice a0_4.a a0_4.n a0_4.c]) (t := 27) ?hr ?_;(case hd => rfl);(case hg => rfl);(case hr => first|(go_simp;done)|(go_simp;rfl));intro gb282 hg w8 hbox hb;have n0_ := Aside0.mk (below_step (by repeat (first|(with_reducible first|exact HB.out|apply below_alloc|apply pw_below_drewN|apply below_drew1)|exact HB.out)) hb);have n1_ := Aside0.mk (hbox);have n2_ := Aside0.mk ((by rw [hg];exact (below_size (by repeat (first|(with_reducible first|exact HB.out|apply below_alloc|apply pw_below_drewN|apply below_drew1)|exact HB.out))) : w.heap.size ≤ gb282));have n3_ := Aside0.mk ((by rw [hg];exact (below_size (by repeat (first|(with_reducible first|exact HB.out|apply below_alloc|apply pw_below_drewN|apply below_drew1)|exact HB.out))) : w.heap.size ≤ gb282));clear HB;have HB := n0_;have BK282 := n1_;have GW282 := n2_;have GE282 := n3_;clear n0_ n1_ n2_ n3_;clear hb hbox hg;have hcz9_0 : w8.cell? ⟨gb282,0,none⟩ = some (.int .i64 a0_0) := (blk_cell BK282.out 0).trans rfl;have hcz9_1 : w8.cell? ⟨gb282,1,none⟩ = some (.int .i64 a0_1) := (blk_cell BK282.out 1).trans rfl;have hcz9_2 : w8.cell? ⟨gb282,2,none⟩ = some (.int .i64 a0_2) := (blk_cell BK282.out 2).trans rfl;have hcz9_3 : w8.cell? ⟨gb282,3,none⟩ = some (.int .i64 a0_3) := (blk_cell BK282.out 3).trans rfl;have hcz9_4 : w8.cell? ⟨gb282,4,none⟩ = some (.slice a0_4.a a0_4.n a0_4.c) := (blk_cell BK282.out 4).trans rfl;have hfz9_0 := blk_frozen BK282.out 0;have hfz9_1 := blk_frozen BK282.out 1;have hfz9_2 := blk_frozen BK282.out 2;have hfz9_3 := blk_frozen BK282.out 3;have hfz9_4 := blk_frozen BK282.out 4))
      go_ret
      exact ⟨by first|rfl|(simp [errW_none,errW_some] <;> rfl)|(simp [*,errW_none,errW_some] <;> rfl),by repeat (first|(with_reducible first|exact HB.out|apply below_alloc|apply pw_below_drewN|apply below_drew1|refine below_set ?_ GE282.out)|exact HB.out)⟩
     ·rw [if_neg c7] at H
      have c7b0 : decide (a0_3 ≤ 1125899906842624) = false := decide_eq_false c7
      clear c7
      obtain rfl := Option.some.inj H
      go_enter Try.func21, Try.ntmps21
      go_wp2_with (first|((with_reducible refine gate_dst (N := 2) rfl ?_);refine box_event ?hg (N := 2) ?hd (cs := #[.int .i64 a0_0,.int .i64 a0_1,.int .i64 a0_2,.int .i64 a0_3,.slice a0_4.a a0_4.n a0_4.c]) (t := 27) ?hr ?_;(case hd => rfl);(case hg => rfl);(case hr => first|(go_simp;done)|(go_simp;rfl));intro gb282 hg w10 hbox hb;have n0_ := Aside0.mk (below_step (by repeat (first|(with_reducible first|exact HB.out|apply below_alloc|apply pw_below_drewN|apply below_drew1)|exact HB.out)) hb);have n1_ := Aside0.mk (hbox);have n2_ := Aside0.mk ((by rw [hg];exact (below_size (by repeat (first|(with_reducible first|exact HB.out|apply below_alloc|apply pw_below_drewN|apply below_drew1)|exact HB.out))) : w.heap.size ≤ gb282));have n3_ := Aside0.mk ((by rw [hg];exact (below_size (by repeat (first|(with_reducible first|exact HB.out|apply below_alloc|apply pw_below_drewN|apply below_drew1)|exact HB.out))) : w.heap.size ≤ gb282));clear HB;have HB := n0_;have BK282 := n1_;have GW282 := n2_;have GE282 := n3_;clear n0_ n1_ n2_ n3_;clear hb hbox hg;have hcz11_0 : w10.cell? ⟨gb282,0,none⟩ = some (.int .i64 a0_0) := (blk_cell BK282.out 0).trans rfl;have hcz11_1 : w10.cell? ⟨gb282,1,none⟩ = some (.int .i64 a0_1) := (blk_cell BK282.out 1).trans rfl;have hcz11_2 : w10.cell? ⟨gb282,2,none⟩ = some (.int .i64 a0_2) := (blk_cell BK282.out 2).trans rfl;have hcz11_3 : w10.cell? ⟨gb282,3,none⟩ = some (.int .i64 a0_3) := (blk_cell BK282.out 3).trans rfl;have hcz11_4 : w10.cell? ⟨gb282,4,none⟩ = some (.slice a0_4.a a0_4.n a0_4.c) := (blk_cell BK282.out 4).trans rfl;have hfz11_0 := blk_frozen BK282.out 0;have hfz11_1 := blk_frozen BK282.out 1;have hfz11_2 := blk_frozen BK282.out 2;have hfz11_3 := blk_frozen BK282.out 3;have hfz11_4 := blk_frozen BK282.out 4))
      go_ret
      exact ⟨by first|rfl|(simp [errW_none,errW_some] <;> rfl)|(simp [*,errW_none,errW_some] <;> rfl),by repeat (first|(with_reducible first|exact HB.out|apply below_alloc|apply pw_below_drewN|apply below_drew1|refine below_set ?_ GE282.out)|exact HB.out)⟩
    ·rw [if_neg c6] at H
     have c6b0 : decide (1 ≤ a0_3) = false := decide_eq_false c6
     clear c6
     obtain rfl := Option.some.inj H
     go_enter Try.func21, Try.ntmps21
     go_wp2_with (first|((with_reducible refine gate_dst (N := 2) rfl ?_);refine box_event ?hg (N := 2) ?hd (cs := #[.int .i64 a0_0,.int .i64 a0_1,.int .i64 a0_2,.int .i64 a0_3,.slice a0_4.a a0_4.n a0_4.c]) (t := 27) ?hr ?_;(case hd => rfl);(case hg => rfl);(case hr => first|(go_simp;done)|(go_simp;rfl));intro gb282 hg w12 hbox hb;have n0_ := Aside0.mk (below_step (by repeat (first|(with_reducible first|exact HB.out|apply below_alloc|apply pw_below_drewN|apply below_drew1)|exact HB.out)) hb);have n1_ := Aside0.mk (hbox);have n2_ := Aside0.mk ((by rw [hg];exact (below_size (by repeat (first|(with_reducible first|exact HB.out|apply below_alloc|apply pw_below_drewN|apply below_drew1)|exact HB.out))) : w.heap.size ≤ gb282));have n3_ := Aside0.mk ((by rw [hg];exact (below_size (by repeat (first|(with_reducible first|exact HB.out|apply below_alloc|apply pw_below_drewN|apply below_drew1)|exact HB.out))) : w.heap.size ≤ gb282));clear HB;have HB := n0_;have BK282 := n1_;have GW282 := n2_;have GE282 := n3_;clear n0_ n1_ n2_ n3_;clear hb hbox hg;have hcz13_0 : w12.cell? ⟨gb282,0,none⟩ = some (.int .i64 a0_0) := (blk_cell BK282.out 0).trans rfl;have hcz13_1 : w12.cell? ⟨gb282,1,none⟩ = some (.int .i64 a0_1) := (blk_cell BK282.out 1).trans rfl;have hcz13_2 : w12.cell? ⟨gb282,2,none⟩ = some (.int .i64 a0_2) := (blk_cell BK282.out 2).trans rfl;have hcz13_3 : w12.cell? ⟨gb282,3,none⟩ = some (.int .i64 a0_3) := (blk_cell BK282.out 3).trans rfl;have hcz13_4 : w12.cell? ⟨gb282,4,none⟩ = some (.slice a0_4.a a0_4.n a0_4.c) := (blk_cell BK282.out 4).trans rfl;have hfz13_0 := blk_frozen BK282.out 0;have hfz13_1 := blk_frozen BK282.out 1;have hfz13_2 := blk_frozen BK282.out 2;have hfz13_3 := blk_frozen BK282.out 3;have hfz13_4 := blk_frozen BK282.out 4))
     go_ret
     exact ⟨by first|rfl|(simp [errW_none,errW_some] <;> rfl)|(simp [*,errW_none,errW_some] <;> rfl),by repeat (first|(with_reducible first|exact HB.out|apply below_alloc|apply pw_below_drewN|apply below_drew1|refine below_set ?_ GE282.out)|exact HB.out)⟩
   ·rw [if_neg c5] at H
    have c5b0 : decide (a0_2 < a1) = false := decide_eq_false c5
    clear c5
    obtain rfl := Option.some.inj H
    go_enter Try.func21, Try.ntmps21
    go_wp2_with (first|((with_reducible refine gate_dst (N := 2) rfl ?_);refine box_event ?hg (N := 2) ?hd (cs := #[.int .i64 a0_0,.int .i64 a0_1,.int .i64 a0_2,.int .i64 a0_3,.slice a0_4.a a0_4.n a0_4.c]) (t := 27) ?hr ?_;(case hd => rfl);(case hg => rfl);(case hr => first|(go_simp;done)|(go_simp;rfl));intro gb282 hg w14 hbox hb;have n0_ := Aside0.mk (below_step (by repeat (first|(with_reducible first|exact HB.out|apply below_alloc|apply pw_below_drewN|apply below_drew1)|exact HB.out)) hb);have n1_ := Aside0.mk (hbox);have n2_ := Aside0.mk ((by rw [hg];exact (below_size (by repeat (first|(with_reducible first|exact HB.out|apply below_alloc|apply pw_below_drewN|apply below_drew1)|exact HB.out))) : w.heap.size ≤ gb282));have n3_ := Aside0.mk ((by rw [hg];exact (below_size (by repeat (first|(with_reducible first|exact HB.out|apply below_alloc|apply pw_below_drewN|apply below_drew1)|exact HB.out))) : w.heap.size ≤ gb282));clear HB;have HB := n0_;have BK282 := n1_;have GW282 := n2_;have GE282 := n3_;clear n0_ n1_ n2_ n3_;clear hb hbox hg;have hcz15_0 : w14.cell? ⟨gb282,0,none⟩ = some (.int .i64 a0_0) := (blk_cell BK282.out 0).trans rfl;have hcz15_1 : w14.cell? ⟨gb282,1,none⟩ = some (.int .i64 a0_1) := (blk_cell BK282.out 1).trans rfl;have hcz15_2 : w14.cell? ⟨gb282,2,none⟩ = some (.int .i64 a0_2) := (blk_cell BK282.out 2).trans rfl;have hcz15_3 : w14.cell? ⟨gb282,3,none⟩ = some (.int .i64 a0_3) := (blk_cell BK282.out 3).trans rfl;have hcz15_4 : w14.cell? ⟨gb282,4,none⟩ = some (.slice a0_4.a a0_4.n a0_4.c) := (blk_cell BK282.out 4).trans rfl;have hfz15_0 := blk_frozen BK282.out 0;have hfz15_1 := blk_frozen BK282.out 1;have hfz15_2 := blk_frozen BK282.out 2;have hfz15_3 := blk_frozen BK282.out 3;have hfz15_4 := blk_frozen BK282.out 4))
    go_ret
    exact ⟨by first|rfl|(simp [errW_none,errW_some] <;> rfl)|(simp [*,errW_none,errW_some] <;> rfl),by repeat (first|(with_reducible first|exact HB.out|apply below_alloc|apply pw_below_drewN|apply below_drew1|refine below_set ?_ GE282.out)|exact HB.out)⟩
  ·rw [if_neg c4] at H
   have c4b0 : decide (0 ≤ a0_2) = false := decide_eq_false c4
   clear c4
   obtain rfl := Option.some.inj H
   go_enter Try.func21, Try.ntmps21
   go_wp2_with (first|((with_reducible refine gate_dst (N := 2) rfl ?_);refine box_event ?hg (N := 2) ?hd (cs := #[.int .i64 a0_0,.int .i64 a0_1,.int .i64 a0_2,.int .i64 a0_3,.slice a0_4.a a0_4.n a0_4.c]) (t := 27) ?hr ?_;(case hd => rfl);(case hg => rfl);(case hr => first|(go_simp;done)|(go_simp;rfl));intro gb282 hg w16 hbox hb;have n0_ := Aside0.mk (below_step (by repeat (first|(with_reducible first|exact HB.out|apply below_alloc|apply pw_below_drewN|apply below_drew1)|exact HB.out)) hb);have n1_ := Aside0.mk (hbox);have n2_ := Aside0.mk ((by rw [hg];exact (below_size (by repeat (first|(with_reducible first|exact HB.out|apply below_alloc|apply pw_below_drewN|apply below_drew1)|exact HB.out))) : w.heap.size ≤ gb282));have n3_ := Aside0.mk ((by rw [hg];exact (below_size (by repeat (first|(with_reducible first|exact HB.out|apply below_alloc|apply pw_below_drewN|apply below_drew1)|exact HB.out))) : w.heap.size ≤ gb282));clear HB;have HB := n0_;have BK282 := n1_;have GW282 := n2_;have GE282 := n3_;clear n0_ n1_ n2_ n3_;clear hb hbox hg;have hcz17_0 : w16.cell? ⟨gb282,0,none⟩ = some (.int .i64 a0_0) := (blk_cell BK282.out 0).trans rfl;have hcz17_1 : w16.cell? ⟨gb282,1,none⟩ = some (.int .i64 a0_1) := (blk_cell BK282.out 1).trans rfl;have hcz17_2 : w16.cell? ⟨gb282,2,none⟩ = some (.int .i64 a0_2) := (blk_cell BK282.out 2).trans rfl;have hcz17_3 : w16.cell? ⟨gb282,3,none⟩ = some (.int .i64 a0_3) := (blk_cell BK282.out 3).trans rfl;have hcz17_4 : w16.cell? ⟨gb282,4,none⟩ = some (.slice a0_4.a a0_4.n a0_4.c) := (blk_cell BK282.out 4).trans rfl;have hfz17_0 := blk_frozen BK282.out 0;have hfz17_1 := blk_frozen BK282.out 1;have hfz17_2 := blk_frozen BK282.out 2;have hfz17_3 := blk_frozen BK282.out 3;have hfz17_4 := blk_frozen BK282.out 4))
   go_ret
   exact ⟨by first|rfl|(simp [errW_none,errW_some] <;> rfl)|(simp [*,errW_none,errW_some] <;> rfl),by repeat (first|(with_reducible first|exact HB.out|apply below_alloc|apply pw_below_drewN|apply below_drew1|refine below_set ?_ GE282.out)|exact HB.out)⟩
 ·rw [if_neg c3] at H
  have c3b0 : (a0_1 == 1) = false := beq_eq_false_iff_ne.mpr c3
  have c3b1 : (a0_1 != 1) = true := bne_iff_ne.mpr c3
  by_cases c18 : a0_1 = 2
  ·rw [if_pos c18] at H
   have c18b0 : (a0_1 == 2) = true := beq_iff_eq.mpr c18
   have c18b1 : (a0_1 != 2) = false := bne_eq_false_iff_eq.mpr c18
   clear c18
   by_cases c19 : a0_2 ≥ 0
   ·rw [if_pos c19] at H
    have c19b0 : decide (0 ≤ a0_2) = true := decide_eq_true c19
    clear c19
    by_cases c20 : a0_2 < a1
    ·rw [if_pos c20] at H
     have c20b0 : decide (a0_2 < a1) = true := decide_eq_true c20
     clear c20
     by_cases c21 : a0_3 ≥ 1
     ·rw [if_pos c21] at H
      have c21b0 : decide (1 ≤ a0_3) = true := decide_eq_true c21
      clear c21
      by_cases c22 : a0_3 ≤ 1125899906842624
      ·rw [if_pos c22] at H
       have c22b0 : decide (a0_3 ≤ 1125899906842624) = true := decide_eq_true c22
       clear c22
       obtain rfl := Option.some.inj H
       go_enter Try.func21, Try.ntmps21
       go_wp2_with (first|((with_reducible refine gate_dst (N := 2) rfl ?_);refine box_event ?hg (N := 2) ?hd (cs := #[.int .i64 a0_0,.int .i64 a0_1,.int .i64 a0_2,.int .i64 a0_3,.slice a0_4.a a0_4.n a0_4.c]) (t := 27) ?hr ?_;(case hd => rfl);(case hg => rfl);(case hr => first|(go_simp;done)|(go_simp;rfl));intro gb282 hg w23 hbox hb;have n0_ := Aside0.mk (below_step (by repeat (first|(with_reducible first|exact HB.out|apply below_alloc|apply pw_below_drewN|apply below_drew1)|exact HB.out)) hb);have n1_ := Aside0.mk (hbox);have n2_ := Aside0.mk ((by rw [hg];exact (below_size (by repeat (first|(with_reducible first|exact HB.out|apply below_alloc|apply pw_below_drewN|apply below_drew1)|exact HB.out))) : w.heap.size ≤ gb282));have n3_ := Aside0.mk ((by rw [hg];exact (below_size (by repeat (first|(with_reducible first|exact HB.out|apply below_alloc|apply pw_below_drewN|apply below_drew1)|exact HB.out))) : w.heap.size ≤ gb282));clear HB;have HB := n0_;have BK282 := n1_;have GW282 := n2_;have GE282 := n3_;clear n0_ n1_ n2_ n3_;clear hb hbox hg;have hcz24_0 : w23.cell? ⟨gb282,0,none⟩ = some (.int .i64 a0_0) := (blk_cell BK282.out 0).trans rfl;have hcz24_1 : w23.cell? ⟨gb282,1,none⟩ = some (.int .i64 a0_1) := (blk_cell BK282.out 1).trans rfl;have hcz24_2 : w23.cell? ⟨gb282,2,none⟩ = some (.int .i64 a0_2) := (blk_cell BK282.out 2).trans rfl;have hcz24_3 : w23.cell? ⟨gb282,3,none⟩ = some (.int .i64 a0_3) := (blk_cell BK282.out 3).trans rfl;have hcz24_4 : w23.cell? ⟨gb282,4,none⟩ = some (.slice a0_4.a a0_4.n a0_4.c) := (blk_cell BK282.out 4).trans rfl;have hfz24_0 := blk_frozen BK282.out 0;have hfz24_1 := blk_frozen BK282.out 1;have hfz24_2 := blk_frozen BK282.out 2;have hfz24_3 := blk_frozen BK282.out 3;have hfz24_4 := blk_frozen BK282.out 4))
       go_ret
       exact ⟨by first|rfl|(simp [errW_none,errW_some] <;> rfl)|(simp [*,errW_none,errW_some] <;> rfl),by repeat (first|(with_reducible first|exact HB.out|apply below_alloc|apply pw_below_drewN|apply below_drew1|refine below_set ?_ GE282.out)|exact HB.out)⟩
      ·rw [if_neg c22] at H
       have c22b0 : decide (a0_3 ≤ 1125899906842624) = false := decide_eq_false c22
       clear c22
       obtain rfl := Option.some.inj H
       go_enter Try.func21, Try.ntmps21
       go_wp2_with (first|((with_reducible refine gate_dst (N := 2) rfl ?_);refine box_event ?hg (N := 2) ?hd (cs := #[.int .i64 a0_0,.int .i64 a0_1,.int .i64 a0_2,.int .i64 a0_3,.slice a0_4.a a0_4.n a0_4.c]) (t := 27) ?hr ?_;(case hd => rfl);(case hg => rfl);(case hr => first|(go_simp;done)|(go_simp;rfl));intro gb282 hg w25 hbox hb;have n0_ := Aside0.mk (below_step (by repeat (first|(with_reducible first|exact HB.out|apply below_alloc|apply pw_below_drewN|apply below_drew1)|exact HB.out)) hb);have n1_ := Aside0.mk (hbox);have n2_ := Aside0.mk ((by rw [hg];exact (below_size (by repeat (first|(with_reducible first|exact HB.out|apply below_alloc|apply pw_below_drewN|apply below_drew1)|exact HB.out))) : w.heap.size ≤ gb282));have n3_ := Aside0.mk ((by rw [hg];exact (below_size (by repeat (first|(with_reducible first|exact HB.out|apply below_alloc|apply pw_below_drewN|apply below_drew1)|exact HB.out))) : w.heap.size ≤ gb282));clear HB;have HB := n0_;have BK282 := n1_;have GW282 := n2_;have GE282 := n3_;clear n0_ n1_ n2_ n3_;clear hb hbox hg;have hcz26_0 : w25.cell? ⟨gb282,0,none⟩ = some (.int .i64 a0_0) := (blk_cell BK282.out 0).trans rfl;have hcz26_1 : w25.cell? ⟨gb282,1,none⟩ = some (.int .i64 a0_1) := (blk_cell BK282.out 1).trans rfl;have hcz26_2 : w25.cell? ⟨gb282,2,none⟩ = some (.int .i64 a0_2) := (blk_cell BK282.out 2).trans rfl;have hcz26_3 : w25.cell? ⟨gb282,3,none⟩ = some (.int .i64 a0_3) := (blk_cell BK282.out 3).trans rfl;have hcz26_4 : w25.cell? ⟨gb282,4,none⟩ = some (.slice a0_4.a a0_4.n a0_4.c) := (blk_cell BK282.out 4).trans rfl;have hfz26_0 := blk_frozen BK282.out 0;have hfz26_1 := blk_frozen BK282.out 1;have hfz26_2 := blk_frozen BK282.out 2;have hfz26_3 := blk_frozen BK282.out 3;have hfz26_4 := blk_frozen BK282.out 4))
       go_ret
       exact ⟨by first|rfl|(simp [errW_none,errW_some] <;> rfl)|(simp [*,errW_none,errW_some] <;> rfl),by repeat (first|(with_reducible first|exact HB.out|apply below_alloc|apply pw_below_drewN|apply below_drew1|refine below_set ?_ GE282.out)|exact HB.out)⟩
     ·rw [if_neg c21] at H
      have c21b0 : decide (1 ≤ a0_3) = false := decide_eq_false c21
      clear c21
      obtain rfl := Option.some.inj H
      go_enter Try.func21, Try.ntmps21
      go_wp2_with (first|((with_reducible refine gate_dst (N := 2) rfl ?_);refine box_event ?hg (N := 2) ?hd (cs := #[.int .i64 a0_0,.int .i64 a0_1,.int .i64 a0_2,.int .i64 a0_3,.slice a0_4.a a0_4.n a0_4.c]) (t := 27) ?hr ?_;(case hd => rfl);(case hg => rfl);(case hr => first|(go_simp;done)|(go_simp;rfl));intro gb282 hg w27 hbox hb;have n0_ := Aside0.mk (below_step (by repeat (first|(with_reducible first|exact HB.out|apply below_alloc|apply pw_below_drewN|apply below_drew1)|exact HB.out)) hb);have n1_ := Aside0.mk (hbox);have n2_ := Aside0.mk ((by rw [hg];exact (below_size (by repeat (first|(with_reducible first|exact HB.out|apply below_alloc|apply pw_below_drewN|apply below_drew1)|exact HB.out))) : w.heap.size ≤ gb282));have n3_ := Aside0.mk ((by rw [hg];exact (below_size (by repeat (first|(with_reducible first|exact HB.out|apply below_alloc|apply pw_below_drewN|apply below_drew1)|exact HB.out))) : w.heap.size ≤ gb282));clear HB;have HB := n0_;have BK282 := n1_;have GW282 := n2_;have GE282 := n3_;clear n0_ n1_ n2_ n3_;clear hb hbox hg;have hcz28_0 : w27.cell? ⟨gb282,0,none⟩ = some (.int .i64 a0_0) := (blk_cell BK282.out 0).trans rfl;have hcz28_1 : w27.cell? ⟨gb282,1,none⟩ = some (.int .i64 a0_1) := (blk_cell BK282.out 1).trans rfl;have hcz28_2 : w27.cell? ⟨gb282,2,none⟩ = some (.int .i64 a0_2) := (blk_cell BK282.out 2).trans rfl;have hcz28_3 : w27.cell? ⟨gb282,3,none⟩ = some (.int .i64 a0_3) := (blk_cell BK282.out 3).trans rfl;have hcz28_4 : w27.cell? ⟨gb282,4,none⟩ = some (.slice a0_4.a a0_4.n a0_4.c) := (blk_cell BK282.out 4).trans rfl;have hfz28_0 := blk_frozen BK282.out 0;have hfz28_1 := blk_frozen BK282.out 1;have hfz28_2 := blk_frozen BK282.out 2;have hfz28_3 := blk_frozen BK282.out 3;have hfz28_4 := blk_frozen BK282.out 4))
      go_ret
      exact ⟨by first|rfl|(simp [errW_none,errW_some] <;> rfl)|(simp [*,errW_none,errW_some] <;> rfl),by repeat (first|(with_reducible first|exact HB.out|apply below_alloc|apply pw_below_drewN|apply below_drew1|refine below_set ?_ GE282.out)|exact HB.out)⟩
    ·rw [if_neg c20] at H
     have c20b0 : decide (a0_2 < a1) = false := decide_eq_false c20
     clear c20
     obtain rfl := Option.some.inj H
     go_enter Try.func21, Try.ntmps21
     go_wp2_with (first|((with_reducible refine gate_dst (N := 2) rfl ?_);refine box_event ?hg (N := 2) ?hd (cs := #[.int .i64 a0_0,.int .i64 a0_1,.int .i64 a0_2,.int .i64 a0_3,.slice a0_4.a a0_4.n a0_4.c]) (t := 27) ?hr ?_;(case hd => rfl);(case hg => rfl);(case hr => first|(go_simp;done)|(go_simp;rfl));intro gb282 hg w29 hbox hb;have n0_ := Aside0.mk (below_step (by repeat (first|(with_reducible first|exact HB.out|apply below_alloc|apply pw_below_drewN|apply below_drew1)|exact HB.out)) hb);have n1_ := Aside0.mk (hbox);have n2_ := Aside0.mk ((by rw [hg];exact (below_size (by repeat (first|(with_reducible first|exact HB.out|apply below_alloc|apply pw_below_drewN|apply below_drew1)|exact HB.out))) : w.heap.size ≤ gb282));have n3_ := Aside0.mk ((by rw [hg];exact (below_size (by repeat (first|(with_reducible first|exact HB.out|apply below_alloc|apply pw_below_drewN|apply below_drew1)|exact HB.out))) : w.heap.size ≤ gb282));clear HB;have HB := n0_;have BK282 := n1_;have GW282 := n2_;have GE282 := n3_;clear n0_ n1_ n2_ n3_;clear hb hbox hg;have hcz30_0 : w29.cell? ⟨gb282,0,none⟩ = some (.int .i64 a0_0) := (blk_cell BK282.out 0).trans rfl;have hcz30_1 : w29.cell? ⟨gb282,1,none⟩ = some (.int .i64 a0_1) := (blk_cell BK282.out 1).trans rfl;have hcz30_2 : w29.cell? ⟨gb282,2,none⟩ = some (.int .i64 a0_2) := (blk_cell BK282.out 2).trans rfl;have hcz30_3 : w29.cell? ⟨gb282,3,none⟩ = some (.int .i64 a0_3) := (blk_cell BK282.out 3).trans rfl;have hcz30_4 : w29.cell? ⟨gb282,4,none⟩ = some (.slice a0_4.a a0_4.n a0_4.c) := (blk_cell BK282.out 4).trans rfl;have hfz30_0 := blk_frozen BK282.out 0;have hfz30_1 := blk_frozen BK282.out 1;have hfz30_2 := blk_frozen BK282.out 2;have hfz30_3 := blk_frozen BK282.out 3;have hfz30_4 := blk_frozen BK282.out 4))
     go_ret
     exact ⟨by first|rfl|(simp [errW_none,errW_some] <;> rfl)|(simp [*,errW_none,errW_some] <;> rfl),by repeat (first|(with_reducible first|exact HB.out|apply below_alloc|apply pw_below_drewN|apply below_drew1|refine below_set ?_ GE282.out)|exact HB.out)⟩
   ·rw [if_neg c19] at H
    have c19b0 : decide (0 ≤ a0_2) = false := decide_eq_false c19
    clear c19
    obtain rfl := Option.some.inj H
    go_enter Try.func21, Try.ntmps21
    go_wp2_with (first|((with_reducible refine gate_dst (N := 2) rfl ?_);refine box_event ?hg (N := 2) ?hd (cs := #[.int .i64 a0_0,.int .i64 a0_1,.int .i64 a0_2,.int .i64 a0_3,.slice a0_4.a a0_4.n a0_4.c]) (t := 27) ?hr ?_;(case hd => rfl);(case hg => rfl);(case hr => first|(go_simp;done)|(go_simp;rfl));intro gb282 hg w31 hbox hb;have n0_ := Aside0.mk (below_step (by repeat (first|(with_reducible first|exact HB.out|apply below_alloc|apply pw_below_drewN|apply below_drew1)|exact HB.out)) hb);have n1_ := Aside0.mk (hbox);have n2_ := Aside0.mk ((by rw [hg];exact (below_size (by repeat (first|(with_reducible first|exact HB.out|apply below_alloc|apply pw_below_drewN|apply below_drew1)|exact HB.out))) : w.heap.size ≤ gb282));have n3_ := Aside0.mk ((by rw [hg];exact (below_size (by repeat (first|(with_reducible first|exact HB.out|apply below_alloc|apply pw_below_drewN|apply below_drew1)|exact HB.out))) : w.heap.size ≤ gb282));clear HB;have HB := n0_;have BK282 := n1_;have GW282 := n2_;have GE282 := n3_;clear n0_ n1_ n2_ n3_;clear hb hbox hg;have hcz32_0 : w31.cell? ⟨gb282,0,none⟩ = some (.int .i64 a0_0) := (blk_cell BK282.out 0).trans rfl;have hcz32_1 : w31.cell? ⟨gb282,1,none⟩ = some (.int .i64 a0_1) := (blk_cell BK282.out 1).trans rfl;have hcz32_2 : w31.cell? ⟨gb282,2,none⟩ = some (.int .i64 a0_2) := (blk_cell BK282.out 2).trans rfl;have hcz32_3 : w31.cell? ⟨gb282,3,none⟩ = some (.int .i64 a0_3) := (blk_cell BK282.out 3).trans rfl;have hcz32_4 : w31.cell? ⟨gb282,4,none⟩ = some (.slice a0_4.a a0_4.n a0_4.c) := (blk_cell BK282.out 4).trans rfl;have hfz32_0 := blk_frozen BK282.out 0;have hfz32_1 := blk_frozen BK282.out 1;have hfz32_2 := blk_frozen BK282.out 2;have hfz32_3 := blk_frozen BK282.out 3;have hfz32_4 := blk_frozen BK282.out 4))
    go_ret
    exact ⟨by first|rfl|(simp [errW_none,errW_some] <;> rfl)|(simp [*,errW_none,errW_some] <;> rfl),by repeat (first|(with_reducible first|exact HB.out|apply below_alloc|apply pw_below_drewN|apply below_drew1|refine below_set ?_ GE282.out)|exact HB.out)⟩
  ·rw [if_neg c18] at H
   have c18b0 : (a0_1 == 2) = false := beq_eq_false_iff_ne.mpr c18
   have c18b1 : (a0_1 != 2) = true := bne_iff_ne.mpr c18
   obtain rfl := Option.some.inj H
   go_enter Try.func21, Try.ntmps21
   go_wp2_with (first|((with_reducible refine gate_dst (N := 2) rfl ?_);refine box_event ?hg (N := 2) ?hd (cs := #[.int .i64 a0_0,.int .i64 a0_1,.int .i64 a0_2,.int .i64 a0_3,.slice a0_4.a a0_4.n a0_4.c]) (t := 27) ?hr ?_;(case hd => rfl);(case hg => rfl);(case hr => first|(go_simp;done)|(go_simp;rfl));intro gb282 hg w33 hbox hb;have n0_ := Aside0.mk (below_step (by repeat (first|(with_reducible first|exact HB.out|apply below_alloc|apply pw_below_drewN|apply below_drew1)|exact HB.out)) hb);have n1_ := Aside0.mk (hbox);have n2_ := Aside0.mk ((by rw [hg];exact (below_size (by repeat (first|(with_reducible first|exact HB.out|apply below_alloc|apply pw_below_drewN|apply below_drew1)|exact HB.out))) : w.heap.size ≤ gb282));have n3_ := Aside0.mk ((by rw [hg];exact (below_size (by repeat (first|(with_reducible first|exact HB.out|apply below_alloc|apply pw_below_drewN|apply below_drew1)|exact HB.out))) : w.heap.size ≤ gb282));clear HB;have HB := n0_;have BK282 := n1_;have GW282 := n2_;have GE282 := n3_;clear n0_ n1_ n2_ n3_;clear hb hbox hg;have hcz34_0 : w33.cell? ⟨gb282,0,none⟩ = some (.int .i64 a0_0) := (blk_cell BK282.out 0).trans rfl;have hcz34_1 : w33.cell? ⟨gb282,1,none⟩ = some (.int .i64 a0_1) := (blk_cell BK282.out 1).trans rfl;have hcz34_2 : w33.cell? ⟨gb282,2,none⟩ = some (.int .i64 a0_2) := (blk_cell BK282.out 2).trans rfl;have hcz34_3 : w33.cell? ⟨gb282,3,none⟩ = some (.int .i64 a0_3) := (blk_cell BK282.out 3).trans rfl;have hcz34_4 : w33.cell? ⟨gb282,4,none⟩ = some (.slice a0_4.a a0_4.n a0_4.c) := (blk_cell BK282.out 4).trans rfl;have hfz34_0 := blk_frozen BK282.out 0;have hfz34_1 := blk_frozen BK282.out 1;have hfz34_2 := blk_frozen BK282.out 2;have hfz34_3 := blk_frozen BK282.out 3;have hfz34_4 := blk_frozen BK282.out 4))
   go_ret
   exact ⟨by first|rfl|(simp [errW_none,errW_some] <;> rfl)|(simp [*,errW_none,errW_some] <;> rfl),by repeat (first|(with_reducible first|exact HB.out|apply below_alloc|apply pw_below_drewN|apply below_drew1|refine below_set ?_ GE282.out)|exact HB.out)⟩


/-! ### strakeref18_newer: function 23 -/
def strakeref18_newer.f (a0_0 : Int) (a0_1 : Int) (a0_2 : Int) (a0_3 : Int) (a0_4 : OSl) (a1_0 : Int) (a1_1 : Int) (a1_2 : Int) (a1_3 : Int) (a1_4 : OSl) : Option (Bool) := if a0_3 > a1_3 then (some true) else (if a0_3 = a1_3 then (some (decide (a0_0 > a1_0))) else (some false))
set_option maxHeartbeats 8000000 in
set_option maxRecDepth 100000 in
theorem strakeref18_newer.calls (a0_0 : Int) (a0_1 : Int) (a0_2 : Int) (a0_3 : Int) (a0_4 : OSl) (a1_0 : Int) (a1_1 : Int) (a1_2 : Int) (a1_3 : Int) (a1_4 : OSl) (r : Bool) (w : World) (h : strakeref18_newer.f a0_0 a0_1 a0_2 a0_3 a0_4 a1_0 a1_1 a1_2 a1_3 a1_4 = some r) :
  Calls Try.prog 23 #[.agg #[.int .i64 a0_0,.int .i64 a0_1,.int .i64 a0_2,.int .i64 a0_3,.slice a0_4.a a0_4.n a0_4.c],.agg #[.int .i64 a1_0,.int .i64 a1_1,.int .i64 a1_2,.int .i64 a1_3,.slice a1_4.a a1_4.n a1_4.c]] w fun e w' => e = .returned (.bool r) ∧ Below w.heap.size w w' := by
 have hu27 := Try.underlying27
 have HB := Aside0.mk (Below.refl w.heap.size w)
 have H : (if a0_3 > a1_3 then (some true) else (if a0_3 = a1_3 then (some (decide (a0_0 > a1_0))) else (some false))) = some r := h
 clear h
 by_cases c3 : a0_3 > a1_3
 ·rw [if_pos c3] at H
  have c3b0 : decide (a1_3 < a0_3) = true := decide_eq_true c3
  clear c3
  obtain rfl := Option.some.inj H
  go_enter Try.func23, Try.ntmps23
  go_wp2_with (first|((with_reducible refine gate_dst (N := 2) rfl ?_);refine box_event ?hg (N := 2) ?hd (cs := #[.int .i64 a0_0,.int .i64 a0_1,.int .i64 a0_2,.int .i64 a0_3,.slice a0_4.a a0_4.n a0_4.c]) (t := 27) ?hr ?_;(case hd => rfl);(case hg => rfl);(case hr => first|(go_simp;done)|(go_simp;rfl));intro gb283 hg w4 hbox hb;have n0_ := Aside0.mk (below_step (by repeat (first|(with_reducible first|exact HB.out|apply below_alloc|apply pw_below_drewN|apply below_drew1)|exact HB.out)) hb);have n1_ := Aside0.mk (hbox);have n2_ := Aside0.mk ((by rw [hg];exact (below_size (by repeat (first|(with_reducible first|exact HB.out|apply below_alloc|apply pw_below_drewN|apply below_drew1)|exact HB.out))) : w.heap.size ≤ gb283));have n3_ := Aside0.mk ((by rw [hg];exact (below_size (by repeat (first|(with_reducible first|exact HB.out|apply below_alloc|apply pw_below_drewN|apply below_drew1)|exact HB.out))) : w.heap.size ≤ gb283));clear HB;have HB := n0_;have BK283 := n1_;have GW283 := n2_;have GE283 := n3_;clear n0_ n1_ n2_ n3_;clear hb hbox hg)|((with_reducible refine gate_dst (N := 3) rfl ?_);refine box_event ?hg (N := 3) ?hd (cs := #[.int .i64 a1_0,.int .i64 a1_1,.int .i64 a1_2,.int .i64 a1_3,.slice a1_4.a a1_4.n a1_4.c]) (t := 27) ?hr ?_;(case hd => rfl);(case hg => rfl);(case hr => first|(go_simp;done)|(go_simp;rfl));intro gb284 hg w5 hbox hb;have n0_ := Aside0.mk (blk_below (g := gb283) (o := .cells #[.int .i64 a0_0,.int .i64 a0_1,.int .i64 a0_2,.int .i64 a0_3,.slice a0_4.a a0_4.n a0_4.c] 27 (0,0)) (by (with_reducible repeat (first|refine blk_drewN ?_ _|refine blk_drew ?_|refine blk_alloc ?_ _));exact BK283.out) hb);have n1_ := Aside0.mk (below_step (by repeat (first|(with_reducible first|exact HB.out|apply below_alloc|apply pw_below_drewN|apply below_drew1|refine below_set ?_ GE283.out)|exact HB.out)) hb);have n2_ := Aside0.mk (hbox);have n3_ := Aside0.mk ((by rw [hg];exact (below_size (by repeat (first|(with_reducible first|exact HB.out|apply below_alloc|apply pw_below_drewN|apply below_drew1|refine below_set ?_ GE283.out)|exact HB.out))) : w.heap.size ≤ gb284));have n4_ := Aside0.mk ((by rw [hg];exact (below_size (by repeat (first|(with_reducible first|exact HB.out|apply below_alloc|apply pw_below_drewN|apply below_drew1|refine below_set ?_ GE283.out)|exact HB.out))) : w.heap.size ≤ gb284));have n5_ := Aside0.mk ((by rw [hg];exact Nat.ne_of_lt (blk_lt (g := gb283) (o := .cells #[.int .i64 a0_0,.int .i64 a0_1,.int .i64 a0_2,.int .i64 a0_3,.slice a0_4.a a0_4.n a0_4.c] 27 (0,0)) (by (with_reducible repeat (first|refine blk_drewN ?_ _|refine blk_drew ?_|refine blk_alloc ?_ _));exact BK283.out)) : gb283 ≠ gb284));have n6_ := Aside0.mk ((by rw [hg];exact Nat.ne_of_gt (blk_lt (g := gb283) (o := .cells #[.int .i64 a0_0,.int .i64 a0_1,.int .i64 a0_2,.int .i64 a0_3,.slice a0_4.a a0_4.n a0_4.c] 27 (0,0)) (by (with_reducible repeat (first|refine blk_drewN ?_ _|refine blk_drew ?_|refine blk_alloc ?_ _));exact BK283.out)) : gb284 ≠ gb283));clear BK283;clear HB;have BK283 := n0_;have HB := n1_;have BK284 := n2_;have GW284 := n3_;have GE284 := n4_;have NB283_284 := n5_;have NB284_283 := n6_;clear n0_ n1_ n2_ n3_ n4_ n5_ n6_;clear hb hbox hg;have hnb6 := NB283_284.out;have hnc6 := NB284_283.out;have hcz7_0 : w5.cell? ⟨gb283,0,none⟩ = some (.int .i64 a0_0) := (blk_cell BK283.out 0).trans rfl;have hcz7_1 : w5.cell? ⟨gb283,1,none⟩ = some (.int .i64 a0_1) := (blk_cell BK283.out 1).trans rfl;have hcz7_2 : w5.cell? ⟨gb283,2,none⟩ = some (.int .i64 a0_2) := (blk_cell BK283.out 2).trans rfl;have hcz7_3 : w5.cell? ⟨gb283,3,none⟩ = some (.int .i64 a0_3) := (blk_cell BK283.out 3).trans rfl;have hcz7_4 : w5.cell? ⟨gb283,4,none⟩ = some (.slice a0_4.a a0_4.n a0_4.c) := (blk_cell BK283.out 4).trans rfl;have hfz7_0 := blk_frozen BK283.out 0;have hfz7_1 := blk_frozen BK283.out 1;have hfz7_2 := blk_frozen BK283.out 2;have hfz7_3 := blk_frozen BK283.out 3;have hfz7_4 := blk_frozen BK283.out 4;have hcz8_0 : w5.cell? ⟨gb284,0,none⟩ = some (.int .i64 a1_0) := (blk_cell BK284.out 0).trans rfl;have hcz8_1 : w5.cell? ⟨gb284,1,none⟩ = some (.int .i64 a1_1) := (blk_cell BK284.out 1).trans rfl;have hcz8_2 : w5.cell? ⟨gb284,2,none⟩ = some (.int .i64 a1_2) := (blk_cell BK284.out 2).trans rfl;have hcz8_3 : w5.cell? ⟨gb284,3,none⟩ = some (.int .i64 a1_3) := (blk_cell BK284.out 3).trans rfl;have hcz8_4 : w5.cell? ⟨gb284,4,none⟩ = some (.slice a1_4.a a1_4.n a1_4.c) := (blk_cell BK284.out 4).trans rfl;have hfz8_0 := blk_frozen BK284.out 0;have hfz8_1 := blk_frozen BK284.out 1;have hfz8_2 := blk_frozen BK284.out 2;have hfz8_3 := blk_frozen BK284.out 3;have hfz8_4 := blk_frozen BK284.out 4))
  go_ret
  exact ⟨by first|rfl|(simp [errW_none,errW_some] <;> rfl)|(simp [*,errW_none,errW_some] <;> rfl),by repeat (first|(with_reducible first|exact HB.out|apply below_alloc|apply pw_below_drewN|apply below_drew1|refine below_set ?_ GE283.out|refine below_set ?_ GE284.out)|exact HB.out)⟩
 ·rw [if_neg c3] at H
  have c3b0 : decide (a1_3 < a0_3) = false := decide_eq_false c3
  clear c3
  by_cases c9 : a0_3 = a1_3
  ·rw [if_pos c9] at H
   have c9b0 : (a0_3 == a1_3) = true := beq_iff_eq.mpr c9
   have c9b1 : (a0_3 != a1_3) = false := bne_eq_false_iff_eq.mpr c9
   clear c9
   obtain rfl := Option.some.inj H
   go_enter Try.func23, Try.ntmps23
   go_wp2_with (first|((with_reducible refine gate_dst (N := 2) rfl ?_);refine box_event ?hg (N := 2) ?hd (cs := #[.int .i64 a0_0,.int .i64 a0_1,.int .i64 a0_2,.int .i64 a0_3,.slice a0_4.a a0_4.n a0_4.c]) (t := 27) ?hr ?_;(case hd => rfl);(case hg => rfl);(case hr => first|(go_simp;done)|(go_simp;rfl));intro gb283 hg w10 hbox hb;have n0_ := Aside0.mk (below_step (by repeat (first|(with_reducible first|exact HB.out|apply below_alloc|apply pw_below_drewN|apply below_drew1)|exact HB.out)) hb);have n1_ := Aside0.mk (hbox);have n2_ := Aside0.mk ((by rw [hg];exact (below_size (by repeat (first|(with_reducible first|exact HB.out|apply below_alloc|apply pw_below_drewN|apply below_drew1)|exact HB.out))) : w.heap.size ≤ gb283));have n3_ := Aside0.mk ((by rw [hg];exact (below_size (by repeat (first|(with_reducible first|exact HB.out|apply below_alloc|apply pw_below_drewN|apply below_drew1)|exact HB.out))) : w.heap.size ≤ gb283));clear HB;have HB := n0_;have BK283 := n1_;have GW283 := n2_;have GE283 := n3_;clear n0_ n1_ n2_ n3_;clear hb hbox hg)|((with_reducible refine gate_dst (N := 3) rfl ?_);refine box_event ?hg (N := 3) ?hd (cs := #[.int .i64 a1_0,.int .i64 a1_1,.int .i64 a1_2,.int .i64 a1_3,.slice a1_4.a a1_4.n a1_4.c]) (t := 27) ?hr ?_;(case hd => rfl);(case hg => rfl);(case hr => first|(go_simp;done)|(go_simp;rfl));intro gb284 hg w11 hbox hb;have n0_ := Aside0.mk (blk_below (g := gb283) (o := .cells #[.int .i64 a0_0,.int .i64 a0_1,.int .i64 a0_2,.int .i64 a0_3,.slice a0_4.a a0_4.n a0_4.c] 27 (0,0)) (by (with_reducible repeat (first|refine blk_drewN ?_ _|refine blk_drew ?_|refine blk_alloc ?_ _));exact BK283.out) hb);have n1_ := Aside0.mk (below_step (by repeat (first|(with_reducible first|exact HB.out|apply below_alloc|apply pw_below_drewN|apply below_drew1|refine below_set ?_ GE283.out)|exact HB.out)) hb);have n2_ := Aside0.mk (hbox);have n3_ := Aside0.mk ((by rw [hg];exact (below_size (by repeat (first|(with_reducible first|exact HB.out|apply below_alloc|apply pw_below_drewN|apply below_drew1|refine below_set ?_ GE283.out)|exact HB.out))) : w.heap.size ≤ gb284));have n4_ := Aside0.mk ((by rw [hg];exact (below_size (by repeat (first|(with_reducible first|exact HB.out|apply below_alloc|apply pw_below_drewN|apply below_drew1|refine below_set ?_ GE283.out)|exact HB.out))) : w.heap.size ≤ gb284));have n5_ := Aside0.mk ((by rw [hg];exact Nat.ne_of_lt (blk_lt (g := gb283) (o := .cells #[.int .i64 a0_0,.int .i64 a0_1,.int .i64 a0_2,.int .i64 a0_3,.slice a0_4.a a0_4.n a0_4.c] 27 (0,0)) (by (with_reducible repeat (first|refine blk_drewN ?_ _|refine blk_drew ?_|refine blk_alloc ?_ _));exact BK283.out)) : gb283 ≠ gb284));have n6_ := Aside0.mk ((by rw [hg];exact Nat.ne_of_gt (blk_lt (g := gb283) (o := .cells #[.int .i64 a0_0,.int .i64 a0_1,.int .i64 a0_2,.int .i64 a0_3,.slice a0_4.a a0_4.n a0_4.c] 27 (0,0)) (by (with_reducible repeat (first|refine blk_drewN ?_ _|refine blk_drew ?_|refine blk_alloc ?_ _));exact BK283.out)) : gb284 ≠ gb283));clear BK283;clear HB;have BK283 := n0_;have HB := n1_;have BK284 := n2_;have GW284 := n3_;have GE284 := n4_;have NB283_284 := n5_;have NB284_283 := n6_;clear n0_ n1_ n2_ n3_ n4_ n5_ n6_;clear hb hbox hg;have hnb12 := NB283_284.out;have hnc12 := NB284_283.out;have hcz13_0 : w11.cell? ⟨gb283,0,none⟩ = some (.int .i64 a0_0) := (blk_cell BK283.out 0).trans rfl;have hcz13_1 : w11.cell? ⟨gb283,1,none⟩ = some (.int .i64 a0_1) := (blk_cell BK283.out 1).trans rfl;have hcz13_2 : w11.cell? ⟨gb283,2,none⟩ = some (.int .i64 a0_2) := (blk_cell BK283.out 2).trans rfl;have hcz13_3 : w11.cell? ⟨gb283,3,none⟩ = some (.int .i64 a0_3) := (blk_cell BK283.out 3).trans rfl;have hcz13_4 : w11.cell? ⟨gb283,4,none⟩ = some (.slice a0_4.a a0_4.n a0_4.c) := (blk_cell BK283.out 4).trans rfl;have hfz13_0 := blk_frozen BK283.out 0;have hfz13_1 := blk_frozen BK283.out 1;have hfz13_2 := blk_frozen BK283.out 2;have hfz13_3 := blk_frozen BK283.out 3;have hfz13_4 := blk_frozen BK283.out 4;have hcz14_0 : w11.cell? ⟨gb284,0,none⟩ = some (.int .i64 a1_0) := (blk_cell BK284.out 0).trans rfl;have hcz14_1 : w11.cell? ⟨gb284,1,none⟩ = some (.int .i64 a1_1) := (blk_cell BK284.out 1).trans rfl;have hcz14_2 : w11.cell? ⟨gb284,2,none⟩ = some (.int .i64 a1_2) := (blk_cell BK284.out 2).trans rfl;have hcz14_3 : w11.cell? ⟨gb284,3,none⟩ = some (.int .i64 a1_3) := (blk_cell BK284.out 3).trans rfl;have hcz14_4 : w11.cell? ⟨gb284,4,none⟩ = some (.slice a1_4.a a1_4.n a1_4.c) := (blk_cell BK284.out 4).trans rfl;have hfz14_0 := blk_frozen BK284.out 0;have hfz14_1 := blk_frozen BK284.out 1;have hfz14_2 := blk_frozen BK284.out 2;have hfz14_3 := blk_frozen BK284.out 3;have hfz14_4 := blk_frozen BK284.out 4))
   go_ret
   exact ⟨by first|rfl|(simp [errW_none,errW_some] <;> rfl)|(simp [*,errW_none,errW_some] <;> rfl),by repeat (first|(with_reducible first|exact HB.out|apply below_alloc|apply pw_below_drewN|apply below_drew1|refine below_set ?_ GE283.out|refine below_set ?_ GE284.out)|exact HB.out)⟩
  ·rw [if_neg c9] at H
   have c9b0 : (a0_3 == a1_3) = false := beq_eq_false_iff_ne.mpr c9
   have c9b1 : (a0_3 != a1_3) = true := bne_iff_ne.mpr c9
   obtain rfl := Option.some.inj H
   go_enter Try.func23, Try.ntmps23
   go_wp2_with (first|((with_reducible refine gate_dst (N := 2) rfl ?_);refine box_event ?hg (N := 2) ?hd (cs := #[.int .i64 a0_0,.int .i64 a0_1,.int .i64 a0_2,.int .i64 a0_3,.slice a0_4.a a0_4.n a0_4.c]) (t := 27) ?hr ?_;(case hd => rfl);(case hg => rfl);(case hr => first|(go_simp;done)|(go_simp;rfl));intro gb283 hg w15 hbox hb;have n0_ := Aside0.mk (below_step (by repeat (first|(with_reducible first|exact HB.out|apply below_alloc|apply pw_below_drewN|apply below_drew1)|exact HB.out)) hb);have n1_ := Aside0.mk (hbox);have n2_ := Aside0.mk ((by rw [hg];exact (below_size (by repeat (first|(with_reducible first|exact HB.out|apply below_alloc|apply pw_below_drewN|apply below_drew1)|exact HB.out))) : w.heap.size ≤ gb283));have n3_ := Aside0.mk ((by rw [hg];exact (below_size (by repeat (first|(with_reducible first|exact HB.out|apply below_alloc|apply pw_below_drewN|apply below_drew1)|exact HB.out))) : w.heap.size ≤ gb283));clear HB;have HB := n0_;have BK283 := n1_;have GW283 := n2_;have GE283 := n3_;clear n0_ n1_ n2_ n3_;clear hb hbox hg)|((with_reducible refine gate_dst (N := 3) rfl ?_);refine box_event ?hg (N := 3) ?hd (cs := #[.int .i64 a1_0,.int .i64 a1_1,.int .i64 a1_2,.int .i64 a1_3,.slice a1_4.a a1_4.n a1_4.c]) (t := 27) ?hr ?_;(case hd => rfl);(case hg => rfl);(case hr => first|(go_simp;done)|(go_simp;rfl));intro gb284 hg w16 hbox hb;have n0_ := Aside0.mk (blk_below (g := gb283) (o := .cells #[.int .i64 a0_0,.int .i64 a0_1,.int .i64 a0_2,.int .i64 a0_3,.slice a0_4.a a0_4.n a0_4.c] 27 (0,0)) (by (with_reducible repeat (first|refine blk_drewN ?_ _|refine blk_drew ?_|refine blk_alloc ?_ _));exact BK283.out) hb);have n1_ := Aside0.mk (below_step (by repeat (first|(with_reducible first|exact HB.out|apply below_alloc|apply pw_below_drewN|apply below_drew1|refine below_set ?_ GE283.out)|exact HB.out)) hb);have n2_ := Aside0.mk (hbox);have n3_ := Aside0.mk ((by rw [hg];exact (below_size (by repeat (first|(with_reducible first|exact HB.out|apply below_alloc|apply pw_below_drewN|apply below_drew1|refine below_set ?_ GE283.out)|exact HB.out))) : w.heap.size ≤ gb284));have n4_ := Aside0.mk ((by rw [hg];exact (below_size (by repeat (first|(with_reducible first|exact HB.out|apply below_alloc|apply pw_below_drewN|apply below_drew1|refine below_set ?_ GE283.out)|exact HB.out))) : w.heap.size ≤ gb284));have n5_ := Aside0.mk ((by rw [hg];exact Nat.ne_of_lt (blk_lt (g := gb283) (o := .cells #[.int .i64 a0_0,.int .i64 a0_1,.int .i64 a0_2,.int .i64 a0_3,.slice a0_4.a a0_4.n a0_4.c] 27 (0,0)) (by (with_reducible repeat (first|refine blk_drewN ?_ _|refine blk_drew ?_|refine blk_alloc ?_ _));exact BK283.out)) : gb283 ≠ gb284));have n6_ := Aside0.mk ((by rw [hg];exact Nat.ne_of_gt (blk_lt (g := gb283) (o := .cells #[.int .i64 a0_0,.int .i64 a0_1,.int .i64 a0_2,.int .i64 a0_3,.slice a0_4.a a0_4.n a0_4.c] 27 (0,0)) (by (with_reducible repeat (first|refine blk_drewN ?_ _|refine blk_drew ?_|refine blk_alloc ?_ _));exact BK283.out)) : gb284 ≠ gb283));clear BK283;clear HB;have BK283 := n0_;have HB := n1_;have BK284 := n2_;have GW284 := n3_;have GE284 := n4_;have NB283_284 := n5_;have NB284_283 := n6_;clear n0_ n1_ n2_ n3_ n4_ n5_ n6_;clear hb hbox hg;have hnb17 := NB283_284.out;have hnc17 := NB284_283.out;have hcz18_0 : w16.cell? ⟨gb283,0,none⟩ = some (.int .i64 a0_0) := (blk_cell BK283.out 0).trans rfl;have hcz18_1 : w16.cell? ⟨gb283,1,none⟩ = some (.int .i64 a0_1) := (blk_cell BK283.out 1).trans rfl;have hcz18_2 : w16.cell? ⟨gb283,2,none⟩ = some (.int .i64 a0_2) := (blk_cell BK283.out 2).trans rfl;have hcz18_3 : w16.cell? ⟨gb283,3,none⟩ = some (.int .i64 a0_3) := (blk_cell BK283.out 3).trans rfl;have hcz18_4 : w16.cell? ⟨gb283,4,none⟩ = some (.slice a0_4.a a0_4.n a0_4.c) := (blk_cell BK283.out 4).trans rfl;have hfz18_0 := blk_frozen BK283.out 0;have hfz18_1 := blk_frozen BK283.out 1;have hfz18_2 := blk_frozen BK283.out 2;have hfz18_3 := blk_frozen BK283.out 3;have hfz18_4 := blk_frozen BK283.out 4;have hcz19_0 : w16.cell? ⟨gb284,0,none⟩ = some (.int .i64 a1_0) := (blk_cell BK284.out 0).trans rfl;have hcz19_1 : w16.cell? ⟨gb284,1,none⟩ = some (.int .i64 a1_1) := (blk_cell BK284.out 1).trans rfl;have hcz19_2 : w16.cell? ⟨gb284,2,none⟩ = some (.int .i64 a1_2) := (blk_cell BK284.out 2).trans rfl;have hcz19_3 : w16.cell? ⟨gb284,3,none⟩ = some (.int .i64 a1_3) := (blk_cell BK284.out 3).trans rfl;have hcz19_4 : w16.cell? ⟨gb284,4,none⟩ = some (.slice a1_4.a a1_4.n a1_4.c) := (blk_cell BK284.out 4).trans rfl;have hfz19_0 := blk_frozen BK284.out 0;have hfz19_1 := blk_frozen BK284.out 1;have hfz19_2 := blk_frozen BK284.out 2;have hfz19_3 := blk_frozen BK284.out 3;have hfz19_4 := blk_frozen BK284.out 4))
   go_ret
   exact ⟨by first|rfl|(simp [errW_none,errW_some] <;> rfl)|(simp [*,errW_none,errW_some] <;> rfl),by repeat (first|(with_reducible first|exact HB.out|apply below_alloc|apply pw_below_drewN|apply below_drew1|refine below_set ?_ GE283.out|refine below_set ?_ GE284.out)|exact HB.out)⟩


/-! ### strakeref18_Best: function 22 -/
mutual
def strakeref18_Best.l0 : Nat → List (S27) → Int → Int → Int → Option (Int)
 | 0, _, _, _, _ => none
 | k + 1,x0,x1,x2,x7 => if x7 < (x0.length : Int) then (if 0 ≤ x7 then ((strakeref18_counts.f ((rd_T27 x0 x7).f0) ((rd_T27 x0 x7).f1.f0) ((rd_T27 x0 x7).f1.f1) ((rd_T27 x0 x7).f1.f2) ((rd_T27 x0 x7).f2) x1).bind fun t286 => (if t286 = true then (strakeref18_Best.j1 k x0 x1 x2 x7 (((rd_T27 x0 x7).f1.f1) != x2)) else (strakeref18_Best.j1 k x0 x1 x2 x7 true))) else (none)) else (some (-1))
def strakeref18_Best.j1 : Nat → List (S27) → Int → Int → Int → Bool → Option (Int)
 | 0, _, _, _, _, _ => none
 | k + 1,x0,x1,x2,x7,x32 => if x32 = true then (strakeref18_Best.l0 k x0 x1 x2 (wrap64 (x7 + 1))) else (strakeref18_Best.l1 k x0 x1 x2 x7 true 0)
def strakeref18_Best.l1 : Nat → List (S27) → Int → Int → Int → Bool → Int → Option (Int)
 | 0, _, _, _, _, _, _ => none
 | k + 1,x0,x1,x2,x7,x8,x9 => if x9 < (x0.length : Int) then (if 0 ≤ x9 then ((strakeref18_counts.f ((rd_T27 x0 x9).f0) ((rd_T27 x0 x9).f1.f0) ((rd_T27 x0 x9).f1.f1) ((rd_T27 x0 x9).f1.f2) ((rd_T27 x0 x9).f2) x1).bind fun t289 => (if t289 = true then (if ((rd_T27 x0 x9).f1.f1) = x2 then (if 0 ≤ x7 then (if x7 < (x0.length : Int) then ((strakeref18_newer.f ((rd_T27 x0 x9).f0) ((rd_T27 x0 x9).f1.f0) ((rd_T27 x0 x9).f1.f1) ((rd_T27 x0 x9).f1.f2) ((rd_T27 x0 x9).f2) ((rd_T27 x0 x7).f0) ((rd_T27 x0 x7).f1.f0) ((rd_T27 x0 x7).f1.f1) ((rd_T27 x0 x7).f1.f2) ((rd_T27 x0 x7).f2)).bind fun t293 => (if t293 = true then (strakeref18_Best.l1 k x0 x1 x2 x7 false (wrap64 (x9 + 1))) else (strakeref18_Best.l1 k x0 x1 x2 x7 x8 (wrap64 (x9 + 1))))) else (none)) else (none)) else (strakeref18_Best.l1 k x0 x1 x2 x7 x8 (wrap64 (x9 + 1)))) else (strakeref18_Best.l1 k x0 x1 x2 x7 x8 (wrap64 (x9 + 1))))) else (none)) else (if x8 = true then (some x7) else (strakeref18_Best.l0 k x0 x1 x2 (wrap64 (x7 + 1))))
end
def strakeref18_Best.f (k : Nat) (l0 : List (S27)) (a1 : Int) (a2 : Int) : Option (Int) := strakeref18_Best.l0 k l0 a1 a2 0
theorem strakeref18_Best.mono_l : ∀ k,(∀ y0 y1 y2 y3,LeO (strakeref18_Best.l0 k y0 y1 y2 y3) (strakeref18_Best.l0 (k + 1) y0 y1 y2 y3)) ∧ (∀ y0 y1 y2 y3 y4,LeO (strakeref18_Best.j1 k y0 y1 y2 y3 y4) (strakeref18_Best.j1 (k + 1) y0 y1 y2 y3 y4)) ∧ (∀ y0 y1 y2 y3 y4 y5,LeO (strakeref18_Best.l1 k y0 y1 y2 y3 y4 y5) (strakeref18_Best.l1 (k + 1) y0 y1 y2 y3 y4 y5))
 | 0 => ⟨fun _ _ _ _ r h => by simp [strakeref18_Best.l0] at h,fun _ _ _ _ _ r h => by simp [strakeref18_Best.j1] at h,fun _ _ _ _ _ _ r h => by simp [strakeref18_Best.l1] at h⟩
 | k + 1 => by
  obtain ⟨ih0, ih1, ih2⟩ := strakeref18_Best.mono_l k
  refine ⟨?_, ?_, ?_⟩
  ·intro y0 y1 y2 y3
   unfold strakeref18_Best.l0
   repeat' first
   | (with_reducible exact ih0 _ _ _ _)
   | (with_reducible exact ih1 _ _ _ _ _)
   | (with_reducible exact ih2 _ _ _ _ _ _)
   | (with_reducible exact LeO.refl _)
   | (with_reducible exact LeO.none _)
   | (with_reducible refine LeO.ite ?_ ?_)
   | (with_reducible refine LeO.bind ?_ (fun _ => ?_))
   | exact ih0 _ _ _ _
   | exact ih1 _ _ _ _ _
   | exact ih2 _ _ _ _ _ _
   | exact LeO.none _
   | refine LeO.ite ?_ ?_
   | refine LeO.bind ?_ (fun _ => ?_)
  ·intro y0 y1 y2 y3 y4
   unfold strakeref18_Best.j1
   repeat' first
   | (with_reducible exact ih0 _ _ _ _)
   | (with_reducible exact ih1 _ _ _ _ _)
   | (with_reducible exact ih2 _ _ _ _ _ _)
   | (with_reducible exact LeO.refl _)
   | (with_reducible exact LeO.none _)
   | (with_reducible refine LeO.ite ?_ ?_)
   | (with_reducible refine LeO.bind ?_ (fun _ => ?_))
   | exact ih0 _ _ _ _
   | exact ih1 _ _ _ _ _
   | exact ih2 _ _ _ _ _ _
   | exact LeO.none _
   | refine LeO.ite ?_ ?_
   | refine LeO.bind ?_ (fun _ => ?_)
  ·intro y0 y1 y2 y3 y4 y5
   unfold strakeref18_Best.l1
   repeat' first
   | (with_reducible exact ih0 _ _ _ _)
   | (with_reducible exact ih1 _ _ _ _ _)
   | (with_reducible exact ih2 _ _ _ _ _ _)
   | (with_reducible exact LeO.refl _)
   | (with_reducible exact LeO.none _)
   | (with_reducible refine LeO.ite ?_ ?_)
   | (with_reducible refine LeO.bind ?_ (fun _ => ?_))
   | exact ih0 _ _ _ _
   | exact ih1 _ _ _ _ _
   | exact ih2 _ _ _ _ _ _
   | exact LeO.none _
   | refine LeO.ite ?_ ?_
   | refine LeO.bind ?_ (fun _ => ?_)
theorem strakeref18_Best.mono : ∀ a0 a1 a2 k,LeO (strakeref18_Best.f k a0 a1 a2) (strakeref18_Best.f (k + 1) a0 a1 a2) := by
 intro a0 a1 a2 k
 obtain ⟨ih0, ih1, ih2⟩ := strakeref18_Best.mono_l k
 unfold strakeref18_Best.f
 repeat' first
   | (with_reducible exact ih0 _ _ _ _)
   | (with_reducible exact ih1 _ _ _ _ _)
   | (with_reducible exact ih2 _ _ _ _ _ _)
   | (with_reducible exact LeO.refl _)
   | (with_reducible exact LeO.none _)
   | (with_reducible refine LeO.ite ?_ ?_)
   | (with_reducible refine LeO.bind ?_ (fun _ => ?_))
   | exact ih0 _ _ _ _
   | exact ih1 _ _ _ _ _
   | exact ih2 _ _ _ _ _ _
   | exact LeO.none _
   | refine LeO.ite ?_ ?_
   | refine LeO.bind ?_ (fun _ => ?_)
def strakeref18_Best.T9 : Bool × List (List Nat × List Nat) := (true,[([],[]),([],[]),([0,1],[0,1]),([2],[2]),([],[]),([3,4],[3,4]),([5,5],[5]),([6],[6]),([6],[6]),([7,8,6],[6,7,8]),([9,6],[6,9]),([10,6],[6,10]),([11,6],[6,11]),([6],[6]),([12,13,6],[6,12,13]),([6,14],[6,14]),([15,6],[15]),([16],[16]),([16],[16]),([17,18,16],[16,17,18]),([19,16],[16,19]),([16],[16]),([16],[16]),([21,22,16],[16,21,22]),([23,16],[16,23]),([20,24,16,16],[16,20,24]),([16,25],[16,25])])
def strakeref18_Best.B9 : List Nat := [0,0,3,7,0,31,63,127,127,511,1023,2047,4095,127,16383,32767,65535,131071,131071,524287,1048575,131071,131071,6422527,14811135,33554431,67108863]
theorem strakeref18_Best.tab9 : rtab .any (opsOf Try.f22 9) = strakeref18_Best.T9 := by kernel_rfl
theorem strakeref18_Best.bits9 : waitsOk strakeref18_Best.T9.2 strakeref18_Best.B9 = true := by kernel_rfl
set_option maxHeartbeats 8000000 in
set_option maxRecDepth 100000 in
theorem strakeref18_Best.calls (k : Nat) (A0 : Option Addr) (c0 : Nat) (l0 : List (S27)) (a1 : Int) (a2 : Int) (r : Int) (w : World) (hr0 : Kd.C k27 w A0 l0.length l0) (hc0 : l0.length ≤ c0) (h : strakeref18_Best.f k l0 a1 a2 = some r) :
  Calls Try.prog 22 #[.slice A0 l0.length c0,.int .i64 a1,.int .i64 a2] w fun e w' => e = .returned (.int .i64 r) ∧ Below w.heap.size w w' := by
 have hu27 := Try.underlying27
 have HR0 := Aside0.mk hr0
 have HC0 := Aside0.mk hc0
 clear hr0 hc0
 have HB := Aside0.mk (Below.refl w.heap.size w)
 have H : (strakeref18_Best.l0 k l0 a1 a2 0) = some r := h
 clear h
 have H' := Aside0.mk H
 clear H
 go_enter Try.func22, Try.ntmps22
 go_wp2
 go_loopg [7] k (fun kq v7 w' => ∃ (x7_1 : Int),v7 = .int .i64 x7_1 ∧ Aside0 (strakeref18_Best.l0 kq l0 a1 a2 x7_1 = some r) ∧ Aside0 (kq ≤ k) ∧ Aside0 (Below w.heap.size w w'))
 case atStart => exact ⟨(0),(by first|rfl|(simp;done)|(simp [*];done)),H',⟨Nat.le_refl _⟩,⟨by repeat (first|(with_reducible first|exact HB.out|apply below_alloc|apply pw_below_drewN|apply below_drew1)|exact HB.out)⟩⟩
 case round =>
  clear H'
  try clear c2
  try clear p2
  obtain ⟨x7_1, rfl, HA, HK1, HB⟩ := hrel
  cases gk with
  | zero => exact absurd HA.out (by simp [strakeref18_Best.l0])
  | succ k1 =>
   have H := HA.out
   clear HA
   simp only [strakeref18_Best.l0] at H
   by_cases c4 : x7_1 < (l0.length : Int)
   ·rw [if_pos c4] at H
    have c4b0 : decide (x7_1 < (l0.length : Int)) = true := decide_eq_true c4
    clear c4
    have HC5 := Aside0.mk H
    clear H
    go_upto_region 4 with (fail)
    go_cut [32] (fun v32 wc => ∃ (kq : Nat) (x32_4 : Bool),v32 = .bool x32_4 ∧ Aside0 (strakeref18_Best.j1 kq l0 a1 a2 x7_1 x32_4 = some r) ∧ Aside0 (kq ≤ k1) ∧ Aside0 (Below w.heap.size w wc))
    case first =>
     have H := HC5.out
     clear HC5
     by_cases c6 : 0 ≤ x7_1
     ·rw [if_pos c6] at H
      have c6b0 : decide (0 ≤ x7_1) = true := decide_eq_true c6
      clear c6
      (first | rw [c6b0] | (simp only [i64_w, i32_w]; rw [c6b0]) | skip)
      replace H := Option.bind_eq_some_iff.mp H
      obtain ⟨t286, A70, H⟩ := H
      replace H : (if t286 = true then (strakeref18_Best.j1 k1 l0 a1 a2 x7_1 (((rd_T27 l0 x7_1).f1.f1) != a2)) else (strakeref18_Best.j1 k1 l0 a1 a2 x7_1 true)) = some r := H
      have A7 := Aside0.mk A70
      clear A70
      by_cases c8 : t286 = true
      ·subst c8
       have H1 : (strakeref18_Best.j1 k1 l0 a1 a2 x7_1 (((rd_T27 l0 x7_1).f1.f1) != a2)) = some r := by rw [if_pos rfl] at H;exact H
       clear H
       have H := H1
       clear H1
       have H' := Aside0.mk H
       clear H
       have p285 : 0 ≤ (x7_1 : Int) := of_decide_eq_true (by first | (with_reducible assumption) | assumption)
       have q285 : x7_1 < (l0.length : Int) := of_decide_eq_true (by first | (with_reducible assumption) | assumption)
       obtain ⟨ad285, e285, hx285_0, hx285_1, hx285_2, hx285_3, hx285_4⟩ := at_T27 HR0.out x7_1 p285 q285
       cases e285
       replace hx285_0 := (HB.out.cell (World.block_lt_of_cell? w _ hx285_0)).trans hx285_0
       replace hx285_1 := (HB.out.cell (World.block_lt_of_cell? w _ hx285_1)).trans hx285_1
       replace hx285_2 := (HB.out.cell (World.block_lt_of_cell? w _ hx285_2)).trans hx285_2
       replace hx285_3 := (HB.out.cell (World.block_lt_of_cell? w _ hx285_3)).trans hx285_3
       replace hx285_4 := (HB.out.cell (World.block_lt_of_cell? w _ hx285_4)).trans hx285_4
       replace p285 := eq_true p285
       replace q285 := eq_true q285
       go_wp2_with (first|((with_reducible refine gate_callee (f := 21) rfl ?_);refine goesL_ (some 21) rfl rfl Try.func21 (by kernel_rfl) rfl #[.agg #[.int .i64 ((rd_T27 l0 x7_1).f0),.int .i64 ((rd_T27 l0 x7_1).f1.f0),.int .i64 ((rd_T27 l0 x7_1).f1.f1),.int .i64 ((rd_T27 l0 x7_1).f1.f2),.slice ((rd_T27 l0 x7_1).f2).a ((rd_T27 l0 x7_1).f2).n ((rd_T27 l0 x7_1).f2).c],.int .i64 a1] rfl (by (try simp only [List.map_toArray,List.map_cons,List.map_nil]);first|done|rfl|(simp only [List.length_drop,List.length_take];rfl)) ?_;(with_reducible refine (strakeref18_counts.calls ((rd_T27 l0 x7_1).f0) ((rd_T27 l0 x7_1).f1.f0) ((rd_T27 l0 x7_1).f1.f1) ((rd_T27 l0 x7_1).f1.f2) ((rd_T27 l0 x7_1).f2) a1 true _ A7.out).mono ?_);rintro e w9 ⟨rfl,hb⟩;refine ⟨_,rfl,?_⟩;have n0_ := Aside0.mk (below_step (by repeat (first|(with_reducible first|exact HB.out|apply below_alloc|apply pw_below_drewN|apply below_drew1)|exact HB.out)) hb);clear HB;have HB := n0_;clear n0_;(try clear hb);(try clear hb2);(try clear hk);(try clear hi);have p287 : 0 ≤ (x7_1 : Int) := of_decide_eq_true (by first|(with_reducible assumption)|assumption);have q287 : x7_1 < (l0.length : Int) := of_decide_eq_true (by first|(with_reducible assumption)|assumption);obtain ⟨ad287,e287,hx287_0,hx287_1,hx287_2,hx287_3,hx287_4⟩ := at_T27 HR0.out x7_1 p287 q287;obtain rfl : ad285 = ad287 := (by injection e287);replace hx287_0 := (HB.out.cell (World.block_lt_of_cell? w _ hx287_0)).trans hx287_0;replace hx287_1 := (HB.out.cell (World.block_lt_of_cell? w _ hx287_1)).trans hx287_1;replace hx287_2 := (HB.out.cell (World.block_lt_of_cell? w _ hx287_2)).trans hx287_2;replace hx287_3 := (HB.out.cell (World.block_lt_of_cell? w _ hx287_3)).trans hx287_3;replace hx287_4 := (HB.out.cell (World.block_lt_of_cell? w _ hx287_4)).trans hx287_4;replace p287 := eq_true p287;replace q287 := eq_true q287))
       go_meet
       case rel => exact ⟨_,((((rd_T27 l0 x7_1).f1.f1) != a2)),(by first|rfl|(simp;done)|(simp [*];done)),H',⟨by have := HK1.out;first|omega|exact Nat.le_refl _⟩,⟨by repeat (first|(with_reducible first|exact HB.out|apply below_alloc|apply pw_below_drewN|apply below_drew1)|exact HB.out)⟩⟩
      ·replace c8 := Bool.eq_false_iff.mpr c8
       subst c8
       have H1 : (strakeref18_Best.j1 k1 l0 a1 a2 x7_1 true) = some r := by rw [if_neg (show ¬ (false = true) by decide)] at H;exact H
       clear H
       have H := H1
       clear H1
       have H' := Aside0.mk H
       clear H
       have p285 : 0 ≤ (x7_1 : Int) := of_decide_eq_true (by first | (with_reducible assumption) | assumption)
       have q285 : x7_1 < (l0.length : Int) := of_decide_eq_true (by first | (with_reducible assumption) | assumption)
       obtain ⟨ad285, e285, hx285_0, hx285_1, hx285_2, hx285_3, hx285_4⟩ := at_T27 HR0.out x7_1 p285 q285
       cases e285
       replace hx285_0 := (HB.out.cell (World.block_lt_of_cell? w _ hx285_0)).trans hx285_0
       replace hx285_1 := (HB.out.cell (World.block_lt_of_cell? w _ hx285_1)).trans hx285_1
       replace hx285_2 := (HB.out.cell (World.block_lt_of_cell? w _ hx285_2)).trans hx285_2
       replace hx285_3 := (HB.out.cell (World.block_lt_of_cell? w _ hx285_3)).trans hx285_3
       replace hx285_4 := (HB.out.cell (World.block_lt_of_cell? w _ hx285_4)).trans hx285_4
       replace p285 := eq_true p285
       replace q285 := eq_true q285
       go_wp2_with (first|((with_reducible refine gate_callee (f := 21) rfl ?_);refine goesL_ (some 21) rfl rfl Try.func21 (by kernel_rfl) rfl #[.agg #[.int .i64 ((rd_T27 l0 x7_1).f0),.int .i64 ((rd_T27 l0 x7_1).f1.f0),.int .i64 ((rd_T27 l0 x7_1).f1.f1),.int .i64 ((rd_T27 l0 x7_1).f1.f2),.slice ((rd_T27 l0 x7_1).f2).a ((rd_T27 l0 x7_1).f2).n ((rd_T27 l0 x7_1).f2).c],.int .i64 a1] rfl (by (try simp only [List.map_toArray,List.map_cons,List.map_nil]);first|done|rfl|(simp only [List.length_drop,List.length_take];rfl)) ?_;(with_reducible refine (strakeref18_counts.calls ((rd_T27 l0 x7_1).f0) ((rd_T27 l0 x7_1).f1.f0) ((rd_T27 l0 x7_1).f1.f1) ((rd_T27 l0 x7_1).f1.f2) ((rd_T27 l0 x7_1).f2) a1 false _ A7.out).mono ?_);rintro e w10 ⟨rfl,hb⟩;refine ⟨_,rfl,?_⟩;have n0_ := Aside0.mk (below_step (by repeat (first|(with_reducible first|exact HB.out|apply below_alloc|apply pw_below_drewN|apply below_drew1)|exact HB.out)) hb);clear HB;have HB := n0_;clear n0_;(try clear hb);(try clear hb2);(try clear hk);(try clear hi)))
       go_meet
       case rel => exact ⟨_,(true),(by first|rfl|(simp;done)|(simp [*];done)),H',⟨by have := HK1.out;first|omega|exact Nat.le_refl _⟩,⟨by repeat (first|(with_reducible first|exact HB.out|apply below_alloc|apply pw_below_drewN|apply below_drew1)|exact HB.out)⟩⟩
     ·rw [if_neg c6] at H
      exact absurd H (by simp)
    case rest =>
     clear HC5
     try clear c2
     try clear p2
     try clear q2
     try clear hx2
     try clear c4
     try clear c4b0
     try clear c6
     try clear c6b0
     try clear c8
     try clear hx285_0
     try clear hx285_1
     try clear hx285_2
     try clear hx285_3
     try clear hx285_4
     try clear hx287_0
     try clear hx287_1
     try clear hx287_2
     try clear hx287_3
     try clear hx287_4
     try clear p2
     try clear p285
     try clear p287
     try clear q285
     try clear q287
     obtain ⟨kq, x32_4, rfl, HA, HJ4, HB⟩ := hcut
     cases kq with
     | zero => exact absurd HA.out (by simp [strakeref18_Best.j1])
     | succ kj4 =>
      have H := HA.out
      clear HA
      simp only [strakeref18_Best.j1] at H
      by_cases c11 : x32_4 = true
      ·subst c11
       have H1 : (strakeref18_Best.l0 kj4 l0 a1 a2 (wrap64 (x7_1 + 1))) = some r := by rw [if_pos rfl] at H; exact H
       clear H
       have H := H1
       clear H1
       have H' := Aside0.mk H
       clear H
       go_wp2
       go_roundg kj4
       case measure => have := HK1.out; have := HJ4.out; omega
       case rel => exact ⟨(wrap64 (x7_1 + 1)),(by first|rfl|(simp;done)|(simp [*];done)),H',⟨by have := HK1.out;have := HJ4.out;omega⟩,⟨by repeat (first|(with_reducible first|exact HB.out|apply below_alloc|apply pw_below_drewN|apply below_drew1)|exact HB.out)⟩⟩
      ·replace c11 := Bool.eq_false_iff.mpr c11
       subst c11
       have H1 : (strakeref18_Best.l1 kj4 l0 a1 a2 x7_1 true 0) = some r := by rw [if_neg (show ¬ (false = true) by decide)] at H;exact H
       clear H
       have H := H1
       clear H1
       have H' := Aside0.mk H
       clear H
       go_wp2
       go_loopg [8,9] kj4 (fun kq v8 v9 w' => ∃ (x8_3 : Bool) (x9_3 : Int),v8 = .bool x8_3 ∧ v9 = .int .i64 x9_3 ∧ Aside0 (strakeref18_Best.l1 kq l0 a1 a2 x7_1 x8_3 x9_3 = some r) ∧ Aside0 (kq ≤ kj4) ∧ Aside0 (Below w.heap.size w w'))
       case atStart => exact ⟨(true),(0),(by first|rfl|(simp;done)|(simp [*];done)),(by first|rfl|(simp;done)|(simp [*];done)),H',⟨Nat.le_refl _⟩,⟨by repeat (first|(with_reducible first|exact HB.out|apply below_alloc|apply pw_below_drewN|apply below_drew1)|exact HB.out)⟩⟩
       case round =>
        clear H'
        try clear c1
        try clear c2
        try clear p2
        try clear q2
        try clear hx2
        try clear c4
        try clear c4b0
        try clear c6
        try clear c6b0
        try clear p6
        try clear c8
        try clear c11
        try clear hx285_0
        try clear hx285_1
        try clear hx285_2
        try clear hx285_3
        try clear hx285_4
        try clear hx287_0
        try clear hx287_1
        try clear hx287_2
        try clear hx287_3
        try clear hx287_4
        try clear p2
        try clear p285
        try clear p287
        try clear q2
        try clear q285
        try clear q287
        obtain ⟨x8_3, x9_3, rfl, rfl, HA, HK3, HB⟩ := hrel
        cases gk with
        | zero => exact absurd HA.out (by simp [strakeref18_Best.l1])
        | succ k3 =>
         have H := HA.out
         clear HA
         simp only [strakeref18_Best.l1] at H
         by_cases c12 : x9_3 < (l0.length : Int)
         ·rw [if_pos c12] at H
          have c12b0 : decide (x9_3 < (l0.length : Int)) = true := decide_eq_true c12
          clear c12
          by_cases c13 : 0 ≤ x9_3
          ·rw [if_pos c13] at H
           have c13b0 : decide (0 ≤ x9_3) = true := decide_eq_true c13
           clear c13
           replace H := Option.bind_eq_some_iff.mp H
           obtain ⟨t289, A140, H⟩ := H
           replace H : (if t289 = true then (if ((rd_T27 l0 x9_3).f1.f1) = a2 then (if 0 ≤ x7_1 then (if x7_1 < (l0.length : Int) then ((strakeref18_newer.f ((rd_T27 l0 x9_3).f0) ((rd_T27 l0 x9_3).f1.f0) ((rd_T27 l0 x9_3).f1.f1) ((rd_T27 l0 x9_3).f1.f2) ((rd_T27 l0 x9_3).f2) ((rd_T27 l0 x7_1).f0) ((rd_T27 l0 x7_1).f1.f0) ((rd_T27 l0 x7_1).f1.f1) ((rd_T27 l0 x7_1).f1.f2) ((rd_T27 l0 x7_1).f2)).bind fun t293 => (if t293 = true then (strakeref18_Best.l1 k3 l0 a1 a2 x7_1 false (wrap64 (x9_3 + 1))) else (strakeref18_Best.l1 k3 l0 a1 a2 x7_1 x8_3 (wrap64 (x9_3 + 1))))) else (none)) else (none)) else (strakeref18_Best.l1 k3 l0 a1 a2 x7_1 x8_3 (wrap64 (x9_3 + 1)))) else (strakeref18_Best.l1 k3 l0 a1 a2 x7_1 x8_3 (wrap64 (x9_3 + 1)))) = some r := H
           have A14 := Aside0.mk A140
           clear A140
           by_cases c15 : t289 = true
           ·subst c15
            have H1 : (if ((rd_T27 l0 x9_3).f1.f1) = a2 then (if 0 ≤ x7_1 then (if x7_1 < (l0.length : Int) then ((strakeref18_newer.f ((rd_T27 l0 x9_3).f0) ((rd_T27 l0 x9_3).f1.f0) ((rd_T27 l0 x9_3).f1.f1) ((rd_T27 l0 x9_3).f1.f2) ((rd_T27 l0 x9_3).f2) ((rd_T27 l0 x7_1).f0) ((rd_T27 l0 x7_1).f1.f0) ((rd_T27 l0 x7_1).f1.f1) ((rd_T27 l0 x7_1).f1.f2) ((rd_T27 l0 x7_1).f2)).bind fun t293 => (if t293 = true then (strakeref18_Best.l1 k3 l0 a1 a2 x7_1 false (wrap64 (x9_3 + 1))) else (strakeref18_Best.l1 k3 l0 a1 a2 x7_1 x8_3 (wrap64 (x9_3 + 1))))) else (none)) else (none)) else (strakeref18_Best.l1 k3 l0 a1 a2 x7_1 x8_3 (wrap64 (x9_3 + 1)))) = some r := by rw [if_pos rfl] at H;exact H
            clear H
            have H := H1
            clear H1
            by_cases c16 : ((rd_T27 l0 x9_3).f1.f1) = a2
            ·rw [if_pos c16] at H
             have c16b0 : (((rd_T27 l0 x9_3).f1.f1) == a2) = true := beq_iff_eq.mpr c16
             have c16b1 : (((rd_T27 l0 x9_3).f1.f1) != a2) = false := bne_eq_false_iff_eq.mpr c16
             clear c16
             by_cases c17 : 0 ≤ x7_1
             ·rw [if_pos c17] at H
              have c17b0 : decide (0 ≤ x7_1) = true := decide_eq_true c17
              clear c17
              by_cases c18 : x7_1 < (l0.length : Int)
              ·rw [if_pos c18] at H
               have c18b0 : decide (x7_1 < (l0.length : Int)) = true := decide_eq_true c18
               clear c18
               replace H := Option.bind_eq_some_iff.mp H
               obtain ⟨t293, A190, H⟩ := H
               replace H : (if t293 = true then (strakeref18_Best.l1 k3 l0 a1 a2 x7_1 false (wrap64 (x9_3 + 1))) else (strakeref18_Best.l1 k3 l0 a1 a2 x7_1 x8_3 (wrap64 (x9_3 + 1)))) = some r := H
               have A19 := Aside0.mk A190
               clear A190
               by_cases c20 : t293 = true
               ·subst c20
                have H1 : (strakeref18_Best.l1 k3 l0 a1 a2 x7_1 false (wrap64 (x9_3 + 1))) = some r := by rw [if_pos rfl] at H;exact H
                clear H
                have H := H1
                clear H1
                have H' := Aside0.mk H
                clear H
                try go_wp2
                (try (rw [drewN_self wr];generalize hq_ : World.drewN wr _ = wr;have n0_ : Aside0 (Below w.heap.size w wr) := ⟨by rw [← hq_];exact (by repeat (first|(with_reducible first|exact HB.out|apply below_alloc|apply pw_below_drewN|apply below_drew1)|exact HB.out))⟩;clear HB hq_;have HB := n0_;clear n0_))
                have n0_ := Aside0.mk (below_drew1 HB.out)
                clear HB
                have HB := n0_
                clear n0_
                have p288 : 0 ≤ (x9_3 : Int) := of_decide_eq_true (by first | (with_reducible assumption) | assumption)
                have q288 : x9_3 < (l0.length : Int) := of_decide_eq_true (by first|(with_reducible assumption)|assumption)
                obtain ⟨ad288, e288, hx288_0, hx288_1, hx288_2, hx288_3, hx288_4⟩ := at_T27 HR0.out x9_3 p288 q288
                have hw288_4 := hx288_4
                have hw288_3 := hx288_3
                have hw288_2 := hx288_2
                have hw288_1 := hx288_1
                have hw288_0 := hx288_0
                cases e288
                replace hx288_0 := (HB.out.cell (World.block_lt_of_cell? w _ hx288_0)).trans hx288_0
                replace hx288_1 := (HB.out.cell (World.block_lt_of_cell? w _ hx288_1)).trans hx288_1
                replace hx288_2 := (HB.out.cell (World.block_lt_of_cell? w _ hx288_2)).trans hx288_2
                replace hx288_3 := (HB.out.cell (World.block_lt_of_cell? w _ hx288_3)).trans hx288_3
                replace hx288_4 := (HB.out.cell (World.block_lt_of_cell? w _ hx288_4)).trans hx288_4
                replace p288 := eq_true p288
                replace q288 := eq_true q288
                have p290 : 0 ≤ (x9_3 : Int) := of_decide_eq_true (by first | (with_reducible assumption) | assumption)
                have q290 : x9_3 < (l0.length : Int) := of_decide_eq_true (by first|(with_reducible assumption)|assumption)
                obtain ⟨ad290, e290, hx290_0, hx290_1, hx290_2, hx290_3, hx290_4⟩ := at_T27 HR0.out x9_3 p290 q290
                have hw290_4 := hx290_4
                have hw290_3 := hx290_3
                have hw290_2 := hx290_2
                have hw290_1 := hx290_1
                have hw290_0 := hx290_0
                obtain rfl : ad288 = ad290 := (by injection e290)
                replace hx290_0 := (HB.out.cell (World.block_lt_of_cell? w _ hx290_0)).trans hx290_0
                replace hx290_1 := (HB.out.cell (World.block_lt_of_cell? w _ hx290_1)).trans hx290_1
                replace hx290_2 := (HB.out.cell (World.block_lt_of_cell? w _ hx290_2)).trans hx290_2
                replace hx290_3 := (HB.out.cell (World.block_lt_of_cell? w _ hx290_3)).trans hx290_3
                replace hx290_4 := (HB.out.cell (World.block_lt_of_cell? w _ hx290_4)).trans hx290_4
                replace p290 := eq_true p290
                replace q290 := eq_true q290
                have p291 : 0 ≤ (x9_3 : Int) := of_decide_eq_true (by first | (with_reducible assumption) | assumption)
                have q291 : x9_3 < (l0.length : Int) := of_decide_eq_true (by first|(with_reducible assumption)|assumption)
                obtain ⟨ad291, e291, hx291_0, hx291_1, hx291_2, hx291_3, hx291_4⟩ := at_T27 HR0.out x9_3 p291 q291
                have hw291_4 := hx291_4
                have hw291_3 := hx291_3
                have hw291_2 := hx291_2
                have hw291_1 := hx291_1
                have hw291_0 := hx291_0
                obtain rfl : ad288 = ad291 := (by injection e291)
                replace hx291_0 := (HB.out.cell (World.block_lt_of_cell? w _ hx291_0)).trans hx291_0
                replace hx291_1 := (HB.out.cell (World.block_lt_of_cell? w _ hx291_1)).trans hx291_1
                replace hx291_2 := (HB.out.cell (World.block_lt_of_cell? w _ hx291_2)).trans hx291_2
                replace hx291_3 := (HB.out.cell (World.block_lt_of_cell? w _ hx291_3)).trans hx291_3
                replace hx291_4 := (HB.out.cell (World.block_lt_of_cell? w _ hx291_4)).trans hx291_4
                replace p291 := eq_true p291
                replace q291 := eq_true q291
                have p292 : 0 ≤ (x7_1 : Int) := of_decide_eq_true (by first | (with_reducible assumption) | assumption)
                have q292 : x7_1 < (l0.length : Int) := of_decide_eq_true (by first|(with_reducible assumption)|assumption)
                obtain ⟨ad292, e292, hx292_0, hx292_1, hx292_2, hx292_3, hx292_4⟩ := at_T27 HR0.out x7_1 p292 q292
                have hw292_4 := hx292_4
                have hw292_3 := hx292_3
                have hw292_2 := hx292_2
                have hw292_1 := hx292_1
                have hw292_0 := hx292_0
                obtain rfl : ad288 = ad292 := (by injection e292)
                replace hx292_0 := (HB.out.cell (World.block_lt_of_cell? w _ hx292_0)).trans hx292_0
                replace hx292_1 := (HB.out.cell (World.block_lt_of_cell? w _ hx292_1)).trans hx292_1
                replace hx292_2 := (HB.out.cell (World.block_lt_of_cell? w _ hx292_2)).trans hx292_2
                replace hx292_3 := (HB.out.cell (World.block_lt_of_cell? w _ hx292_3)).trans hx292_3
                replace hx292_4 := (HB.out.cell (World.block_lt_of_cell? w _ hx292_4)).trans hx292_4
                replace p292 := eq_true p292
                replace q292 := eq_true q292
                refine start_ (n := 27) (S := fun w' => w'.cell? (ad288.add ((x9_3).toNat * 5)) = some (.int .i64 ((rd_T27 l0 x9_3).f0)) ∧ w'.cell? ⟨(ad288.add ((x9_3).toNat * 5)).block,(ad288.add ((x9_3).toNat * 5)).off + 1,none⟩ = some (.int .i64 ((rd_T27 l0 x9_3).f1.f0)) ∧ w'.cell? ⟨(ad288.add ((x9_3).toNat * 5)).block,(ad288.add ((x9_3).toNat * 5)).off + 2,none⟩ = some (.int .i64 ((rd_T27 l0 x9_3).f1.f1)) ∧ w'.cell? ⟨(ad288.add ((x9_3).toNat * 5)).block,(ad288.add ((x9_3).toNat * 5)).off + 3,none⟩ = some (.int .i64 ((rd_T27 l0 x9_3).f1.f2)) ∧ w'.cell? ⟨(ad288.add ((x9_3).toNat * 5)).block,(ad288.add ((x9_3).toNat * 5)).off + 4,none⟩ = some (.slice ((rd_T27 l0 x9_3).f2).a ((rd_T27 l0 x9_3).f2).n ((rd_T27 l0 x9_3).f2).c) ∧ w'.cell? (ad288.add ((x9_3).toNat * 5)) = some (.int .i64 ((rd_T27 l0 x9_3).f0)) ∧ w'.cell? ⟨(ad288.add ((x9_3).toNat * 5)).block,(ad288.add ((x9_3).toNat * 5)).off + 1,none⟩ = some (.int .i64 ((rd_T27 l0 x9_3).f1.f0)) ∧ w'.cell? ⟨(ad288.add ((x9_3).toNat * 5)).block,(ad288.add ((x9_3).toNat * 5)).off + 2,none⟩ = some (.int .i64 ((rd_T27 l0 x9_3).f1.f1)) ∧ w'.cell? ⟨(ad288.add ((x9_3).toNat * 5)).block,(ad288.add ((x9_3).toNat * 5)).off + 3,none⟩ = some (.int .i64 ((rd_T27 l0 x9_3).f1.f2)) ∧ w'.cell? ⟨(ad288.add ((x9_3).toNat * 5)).block,(ad288.add ((x9_3).toNat * 5)).off + 4,none⟩ = some (.slice ((rd_T27 l0 x9_3).f2).a ((rd_T27 l0 x9_3).f2).n ((rd_T27 l0 x9_3).f2).c) ∧ w'.cell? (ad288.add ((x9_3).toNat * 5)) = some (.int .i64 ((rd_T27 l0 x9_3).f0)) ∧ w'.cell? ⟨(ad288.add ((x9_3).toNat * 5)).block,(ad288.add ((x9_3).toNat * 5)).off + 1,none⟩ = some (.int .i64 ((rd_T27 l0 x9_3).f1.f0)) ∧ w'.cell? ⟨(ad288.add ((x9_3).toNat * 5)).block,(ad288.add ((x9_3).toNat * 5)).off + 2,none⟩ = some (.int .i64 ((rd_T27 l0 x9_3).f1.f1)) ∧ w'.cell? ⟨(ad288.add ((x9_3).toNat * 5)).block,(ad288.add ((x9_3).toNat * 5)).off + 3,none⟩ = some (.int .i64 ((rd_T27 l0 x9_3).f1.f2)) ∧ w'.cell? ⟨(ad288.add ((x9_3).toNat * 5)).block,(ad288.add ((x9_3).toNat * 5)).off + 4,none⟩ = some (.slice ((rd_T27 l0 x9_3).f2).a ((rd_T27 l0 x9_3).f2).n ((rd_T27 l0 x9_3).f2).c) ∧ w'.cell? (ad288.add ((x7_1).toNat * 5)) = some (.int .i64 ((rd_T27 l0 x7_1).f0)) ∧ w'.cell? ⟨(ad288.add ((x7_1).toNat * 5)).block,(ad288.add ((x7_1).toNat * 5)).off + 1,none⟩ = some (.int .i64 ((rd_T27 l0 x7_1).f1.f0)) ∧ w'.cell? ⟨(ad288.add ((x7_1).toNat * 5)).block,(ad288.add ((x7_1).toNat * 5)).off + 2,none⟩ = some (.int .i64 ((rd_T27 l0 x7_1).f1.f1)) ∧ w'.cell? ⟨(ad288.add ((x7_1).toNat * 5)).block,(ad288.add ((x7_1).toNat * 5)).off + 3,none⟩ = some (.int .i64 ((rd_T27 l0 x7_1).f1.f2)) ∧ w'.cell? ⟨(ad288.add ((x7_1).toNat * 5)).block,(ad288.add ((x7_1).toNat * 5)).off + 4,none⟩ = some (.slice ((rd_T27 l0 x7_1).f2).a ((rd_T27 l0 x7_1).f2).n ((rd_T27 l0 x7_1).f2).c)) (ds := []) #[false,false,false,false,false,false,false,false,false,false,false,false,false,false,false,false,false,false,false,false,false,false,false,false,false,false,false] (by kernel_rfl) rfl rfl ⟨((HB.out.cell (World.block_lt_of_cell? w _ hw288_0)).trans hw288_0),((HB.out.cell (World.block_lt_of_cell? w _ hw288_1)).trans hw288_1),((HB.out.cell (World.block_lt_of_cell? w _ hw288_2)).trans hw288_2),((HB.out.cell (World.block_lt_of_cell? w _ hw288_3)).trans hw288_3),((HB.out.cell (World.block_lt_of_cell? w _ hw288_4)).trans hw288_4),((HB.out.cell (World.block_lt_of_cell? w _ hw290_0)).trans hw290_0),((HB.out.cell (World.block_lt_of_cell? w _ hw290_1)).trans hw290_1),((HB.out.cell (World.block_lt_of_cell? w _ hw290_2)).trans hw290_2),((HB.out.cell (World.block_lt_of_cell? w _ hw290_3)).trans hw290_3),((HB.out.cell (World.block_lt_of_cell? w _ hw290_4)).trans hw290_4),((HB.out.cell (World.block_lt_of_cell? w _ hw291_0)).trans hw291_0),((HB.out.cell (World.block_lt_of_cell? w _ hw291_1)).trans hw291_1),((HB.out.cell (World.block_lt_of_cell? w _ hw291_2)).trans hw291_2),((HB.out.cell (World.block_lt_of_cell? w _ hw291_3)).trans hw291_3),((HB.out.cell (World.block_lt_of_cell? w _ hw291_4)).trans hw291_4),((HB.out.cell (World.block_lt_of_cell? w _ hw292_0)).trans hw292_0),((HB.out.cell (World.block_lt_of_cell? w _ hw292_1)).trans hw292_1),((HB.out.cell (World.block_lt_of_cell? w _ hw292_2)).trans hw292_2),((HB.out.cell (World.block_lt_of_cell? w _ hw292_3)).trans hw292_3),((HB.out.cell (World.block_lt_of_cell? w _ hw292_4)).trans hw292_4)⟩ (fun hHeld => ?_);refine with_tabW strakeref18_Best.tab9 strakeref18_Best.bits9 (fun HT_ HW_ => ?_)
                generalize wr.drew = w21 at HB hx288_0 hx288_1 hx288_2 hx288_3 hx288_4 hx290_0 hx290_1 hx290_2 hx290_3 hx290_4 hx291_0 hx291_1 hx291_2 hx291_3 hx291_4 hx292_0 hx292_1 hx292_2 hx292_3 hx292_4 hHeld ⊢
                refine pure_ (i := 0) (N := some 39) (v := ?_) (a' := ?_) #[true,false,false,false,false,false,false,false,false,false,false,false,false,false,false,false,false,false,false,false,false,false,false,false,false,false,false] rfl rfl (any_of HT_.out (by kernel_rfl)) (fun _ _ _ h => h) (Or.inl ⟨by rfl,?_⟩) ?_ ?_
                rotate_left
                ·intro w'
                 go_simp
                 with_reducible rfl
                rotate_left
                ·simp only [Act.put, qa, qb, qc, i64_w, i32_w]
                 rfl
                refine pure_ (i := 1) (N := some 40) (v := ?_) (a' := ?_) #[true,true,false,false,false,false,false,false,false,false,false,false,false,false,false,false,false,false,false,false,false,false,false,false,false,false,false] rfl rfl (any_of HT_.out (by kernel_rfl)) (fun _ _ _ h => h) (Or.inl ⟨by rfl,?_⟩) ?_ ?_
                rotate_left
                ·intro w'
                 go_simp
                 with_reducible rfl
                rotate_left
                ·simp only [Act.put, qa, qb, qc, i64_w, i32_w]
                 rfl
                refine pure_ (i := 2) (N := some 41) (v := ?_) (a' := ?_) #[true,true,true,false,false,false,false,false,false,false,false,false,false,false,false,false,false,false,false,false,false,false,false,false,false,false,false] rfl rfl (any_of HT_.out (by kernel_rfl)) (fun _ _ _ h => h) (Or.inl ⟨by rfl,?_⟩) ?_ ?_
                rotate_left
                ·intro w'
                 go_simp
                 with_reducible rfl
                rotate_left
                ·simp only [Act.put, qa, qb, qc, i64_w, i32_w]
                 rfl
                refine pure_ (i := 4) (N := some 43) (v := ?_) (a' := ?_) #[true,true,true,false,true,false,false,false,false,false,false,false,false,false,false,false,false,false,false,false,false,false,false,false,false,false,false] rfl rfl (any_of HT_.out (by kernel_rfl)) (fun _ _ _ h => h) (Or.inl ⟨by rfl,?_⟩) ?_ ?_
                rotate_left
                ·intro w'
                 go_simp
                 with_reducible rfl
                rotate_left
                ·simp only [Act.put, qa, qb, qc, i64_w, i32_w]
                 rfl
                refine take_ (i := 3) (N := some 42) (v := ?_) (a' := ?_) #[true,true,true,true,true,false,false,false,false,false,false,false,false,false,false,false,false,false,false,false,false,false,false,false,false,false,false] rfl rfl (take_ofW HT_.out HW_.out (by kernel_rfl)) (fun _ _ _ h => h) (Or.inl ⟨by rfl,?_⟩) hHeld ?_ ?_
                rotate_left
                ·rintro w' ⟨s0, s1, s2, s3, s4, s5, s6, s7, s8, s9, s10, s11, s12, s13, s14, s15, s16, s17, s18, s19⟩
                 go_simp
                 with_reducible rfl
                rotate_left
                ·simp only [Act.put, qa, qb, qc, i64_w, i32_w]
                 rfl
                refine one_ (i := 5) (N := some 44) #[true,true,true,true,true,true,false,false,false,false,false,false,false,false,false,false,false,false,false,false,false,false,false,false,false,false,false] rfl rfl (one_of HT_.out (by kernel_rfl)) (by decide) (fun K hK => ?_)
                refine goes_ Try.func21 (by kernel_rfl) rfl #[.agg #[.int .i64 ((rd_T27 l0 x9_3).f0),.int .i64 ((rd_T27 l0 x9_3).f1.f0),.int .i64 ((rd_T27 l0 x9_3).f1.f1),.int .i64 ((rd_T27 l0 x9_3).f1.f2),.slice ((rd_T27 l0 x9_3).f2).a ((rd_T27 l0 x9_3).f2).n ((rd_T27 l0 x9_3).f2).c],.int .i64 a1] (by rfl) rfl rfl (by (try simp only [List.map_toArray,List.map_cons,List.map_nil]);first|done|rfl|(simp only [List.length_drop,List.length_take];rfl)) ?_
                with_reducible refine (strakeref18_counts.calls ((rd_T27 l0 x9_3).f0) ((rd_T27 l0 x9_3).f1.f0) ((rd_T27 l0 x9_3).f1.f1) ((rd_T27 l0 x9_3).f1.f2) ((rd_T27 l0 x9_3).f2) a1 true _ A14.out).mono ?_
                rintro e w22 ⟨rfl, hb⟩
                refine ⟨_, rfl, ?_⟩
                have n0_ := Aside0.mk (below_step (by repeat (first|(with_reducible first|exact HB.out|apply below_alloc|apply pw_below_drewN|apply below_drew1)|exact HB.out)) hb)
                clear HB
                have HB := n0_
                clear n0_
                (try clear hb)
                (try clear hb2)
                (try clear hk)
                (try clear hi)
                refine hK.out _ _ ⟨((HB.out.cell (World.block_lt_of_cell? w _ hw288_0)).trans hw288_0),((HB.out.cell (World.block_lt_of_cell? w _ hw288_1)).trans hw288_1),((HB.out.cell (World.block_lt_of_cell? w _ hw288_2)).trans hw288_2),((HB.out.cell (World.block_lt_of_cell? w _ hw288_3)).trans hw288_3),((HB.out.cell (World.block_lt_of_cell? w _ hw288_4)).trans hw288_4),((HB.out.cell (World.block_lt_of_cell? w _ hw290_0)).trans hw290_0),((HB.out.cell (World.block_lt_of_cell? w _ hw290_1)).trans hw290_1),((HB.out.cell (World.block_lt_of_cell? w _ hw290_2)).trans hw290_2),((HB.out.cell (World.block_lt_of_cell? w _ hw290_3)).trans hw290_3),((HB.out.cell (World.block_lt_of_cell? w _ hw290_4)).trans hw290_4),((HB.out.cell (World.block_lt_of_cell? w _ hw291_0)).trans hw291_0),((HB.out.cell (World.block_lt_of_cell? w _ hw291_1)).trans hw291_1),((HB.out.cell (World.block_lt_of_cell? w _ hw291_2)).trans hw291_2),((HB.out.cell (World.block_lt_of_cell? w _ hw291_3)).trans hw291_3),((HB.out.cell (World.block_lt_of_cell? w _ hw291_4)).trans hw291_4),((HB.out.cell (World.block_lt_of_cell? w _ hw292_0)).trans hw292_0),((HB.out.cell (World.block_lt_of_cell? w _ hw292_1)).trans hw292_1),((HB.out.cell (World.block_lt_of_cell? w _ hw292_2)).trans hw292_2),((HB.out.cell (World.block_lt_of_cell? w _ hw292_3)).trans hw292_3),((HB.out.cell (World.block_lt_of_cell? w _ hw292_4)).trans hw292_4)⟩ (fun hHeld => ?_)
                clear hK K
                refine norm_ (a' := ?_) ?_ ?_
                rotate_left
                ·show Act.put _ (some 44) _ = _
                 simp only [Act.put, qa, qb, qc, i64_w, i32_w]
                 rfl
                refine pure_ (i := 6) (N := some 45) (v := ?_) (a' := ?_) #[true,true,true,true,true,true,true,false,false,false,false,false,false,false,false,false,false,false,false,false,false,false,false,false,false,false,false] rfl rfl (any_of HT_.out (by kernel_rfl)) (fun _ _ _ h => h) (Or.inl ⟨by rfl,?_⟩) ?_ ?_
                rotate_left
                ·intro w'
                 go_simp
                 with_reducible rfl
                rotate_left
                ·simp only [Act.put, qa, qb, qc, i64_w, i32_w]
                 rfl
                refine pure_ (i := 7) (N := some 46) (v := ?_) (a' := ?_) #[true,true,true,true,true,true,true,true,false,false,false,false,false,false,false,false,false,false,false,false,false,false,false,false,false,false,false] rfl rfl (any_of HT_.out (by kernel_rfl)) (fun _ _ _ h => h) (Or.inl ⟨by rfl,?_⟩) ?_ ?_
                rotate_left
                ·intro w'
                 go_simp
                 with_reducible rfl
                rotate_left
                ·simp only [Act.put, qa, qb, qc, i64_w, i32_w]
                 rfl
                refine pure_ (i := 8) (N := some 47) (v := ?_) (a' := ?_) #[true,true,true,true,true,true,true,true,true,false,false,false,false,false,false,false,false,false,false,false,false,false,false,false,false,false,false] rfl rfl (any_of HT_.out (by kernel_rfl)) (fun _ _ _ h => h) (Or.inl ⟨by rfl,?_⟩) ?_ ?_
                rotate_left
                ·intro w'
                 go_simp
                 with_reducible rfl
                rotate_left
                ·simp only [Act.put, qa, qb, qc, i64_w, i32_w]
                 rfl
                refine pure_ (i := 9) (N := some 48) (v := ?_) (a' := ?_) #[true,true,true,true,true,true,true,true,true,true,false,false,false,false,false,false,false,false,false,false,false,false,false,false,false,false,false] rfl rfl (any_of HT_.out (by kernel_rfl)) (fun _ _ _ h => h) (Or.inl ⟨by rfl,?_⟩) ?_ ?_
                rotate_left
                ·intro w'
                 go_simp
                 with_reducible rfl
                rotate_left
                ·simp only [Act.put, qa, qb, qc, i64_w, i32_w]
                 rfl
                refine pure_ (i := 10) (N := some 49) (v := ?_) (a' := ?_) #[true,true,true,true,true,true,true,true,true,true,true,false,false,false,false,false,false,false,false,false,false,false,false,false,false,false,false] rfl rfl (any_of HT_.out (by kernel_rfl)) (fun _ _ _ h => h) (Or.inl ⟨by rfl,?_⟩) ?_ ?_
                rotate_left
                ·intro w'
                 go_simp
                 with_reducible rfl
                rotate_left
                ·simp only [Act.put, qa, qb, qc, i64_w, i32_w]
                 rfl
                refine pure_ (i := 11) (N := some 50) (v := ?_) (a' := ?_) #[true,true,true,true,true,true,true,true,true,true,true,true,false,false,false,false,false,false,false,false,false,false,false,false,false,false,false] rfl rfl (any_of HT_.out (by kernel_rfl)) (fun _ _ _ h => h) (Or.inl ⟨by rfl,?_⟩) ?_ ?_
                rotate_left
                ·intro w'
                 go_simp
                 with_reducible rfl
                rotate_left
                ·simp only [Act.put, qa, qb, qc, i64_w, i32_w]
                 rfl
                refine pure_ (i := 13) (N := some 52) (v := ?_) (a' := ?_) #[true,true,true,true,true,true,true,true,true,true,true,true,false,true,false,false,false,false,false,false,false,false,false,false,false,false,false] rfl rfl (any_of HT_.out (by kernel_rfl)) (fun _ _ _ h => h) (Or.inl ⟨by rfl,?_⟩) ?_ ?_
                rotate_left
                ·intro w'
                 go_simp
                 with_reducible rfl
                rotate_left
                ·simp only [Act.put, qa, qb, qc, i64_w, i32_w]
                 rfl
                refine take_ (i := 12) (N := some 51) (v := ?_) (a' := ?_) #[true,true,true,true,true,true,true,true,true,true,true,true,true,true,false,false,false,false,false,false,false,false,false,false,false,false,false] rfl rfl (take_ofW HT_.out HW_.out (by kernel_rfl)) (fun _ _ _ h => h) (Or.inl ⟨by rfl,?_⟩) hHeld ?_ ?_
                rotate_left
                ·rintro w' ⟨s0, s1, s2, s3, s4, s5, s6, s7, s8, s9, s10, s11, s12, s13, s14, s15, s16, s17, s18, s19⟩
                 go_simp
                 with_reducible rfl
                rotate_left
                ·simp only [Act.put, qa, qb, qc, i64_w, i32_w]
                 rfl
                refine pure_ (i := 14) (N := some 53) (v := ?_) (a' := ?_) #[true,true,true,true,true,true,true,true,true,true,true,true,true,true,true,false,false,false,false,false,false,false,false,false,false,false,false] rfl rfl (any_of HT_.out (by kernel_rfl)) (fun _ _ _ h => h) (Or.inl ⟨by rfl,?_⟩) ?_ ?_
                rotate_left
                ·intro w'
                 go_simp
                 with_reducible rfl
                rotate_left
                ·simp only [Act.put, qa, qb, qc, i64_w, i32_w]
                 rfl
                refine pure_ (i := 15) (N := some 54) (v := ?_) (a' := ?_) #[true,true,true,true,true,true,true,true,true,true,true,true,true,true,true,true,false,false,false,false,false,false,false,false,false,false,false] rfl rfl (any_of HT_.out (by kernel_rfl)) (fun _ _ _ h => h) (Or.inl ⟨by rfl,?_⟩) ?_ ?_
                rotate_left
                ·intro w'
                 go_simp
                 with_reducible rfl
                rotate_left
                ·simp only [Act.put, qa, qb, qc, i64_w, i32_w]
                 rfl
                refine pure_ (i := 16) (N := some 55) (v := ?_) (a' := ?_) #[true,true,true,true,true,true,true,true,true,true,true,true,true,true,true,true,true,false,false,false,false,false,false,false,false,false,false] rfl rfl (any_of HT_.out (by kernel_rfl)) (fun _ _ _ h => h) (Or.inl ⟨by rfl,?_⟩) ?_ ?_
                rotate_left
                ·intro w'
                 go_simp
                 with_reducible rfl
                rotate_left
                ·simp only [Act.put, qa, qb, qc, i64_w, i32_w]
                 rfl
                refine pure_ (i := 17) (N := some 56) (v := ?_) (a' := ?_) #[true,true,true,true,true,true,true,true,true,true,true,true,true,true,true,true,true,true,false,false,false,false,false,false,false,false,false] rfl rfl (any_of HT_.out (by kernel_rfl)) (fun _ _ _ h => h) (Or.inl ⟨by rfl,?_⟩) ?_ ?_
                rotate_left
                ·intro w'
                 go_simp
                 with_reducible rfl
                rotate_left
                ·simp only [Act.put, qa, qb, qc, i64_w, i32_w]
                 rfl
                refine pure_ (i := 18) (N := some 57) (v := ?_) (a' := ?_) #[true,true,true,true,true,true,true,true,true,true,true,true,true,true,true,true,true,true,true,false,false,false,false,false,false,false,false] rfl rfl (any_of HT_.out (by kernel_rfl)) (fun _ _ _ h => h) (Or.inl ⟨by rfl,?_⟩) ?_ ?_
                rotate_left
                ·intro w'
                 go_simp
                 with_reducible rfl
                rotate_left
                ·simp only [Act.put, qa, qb, qc, i64_w, i32_w]
                 rfl
                refine pure_ (i := 19) (N := some 58) (v := ?_) (a' := ?_) #[true,true,true,true,true,true,true,true,true,true,true,true,true,true,true,true,true,true,true,true,false,false,false,false,false,false,false] rfl rfl (any_of HT_.out (by kernel_rfl)) (fun _ _ _ h => h) (Or.inl ⟨by rfl,?_⟩) ?_ ?_
                rotate_left
                ·intro w'
                 go_simp
                 with_reducible rfl
                rotate_left
                ·simp only [Act.put, qa, qb, qc, i64_w, i32_w]
                 rfl
                refine pure_ (i := 21) (N := some 60) (v := ?_) (a' := ?_) #[true,true,true,true,true,true,true,true,true,true,true,true,true,true,true,true,true,true,true,true,false,true,false,false,false,false,false] rfl rfl (any_of HT_.out (by kernel_rfl)) (fun _ _ _ h => h) (Or.inl ⟨by rfl,?_⟩) ?_ ?_
                rotate_left
                ·intro w'
                 go_simp
                 with_reducible rfl
                rotate_left
                ·simp only [Act.put, qa, qb, qc, i64_w, i32_w]
                 rfl
                refine pure_ (i := 22) (N := some 61) (v := ?_) (a' := ?_) #[true,true,true,true,true,true,true,true,true,true,true,true,true,true,true,true,true,true,true,true,false,true,true,false,false,false,false] rfl rfl (any_of HT_.out (by kernel_rfl)) (fun _ _ _ h => h) (Or.inl ⟨by rfl,?_⟩) ?_ ?_
                rotate_left
                ·intro w'
                 go_simp
                 with_reducible rfl
                rotate_left
                ·simp only [Act.put, qa, qb, qc, i64_w, i32_w]
                 rfl
                refine pure_ (i := 23) (N := some 62) (v := ?_) (a' := ?_) #[true,true,true,true,true,true,true,true,true,true,true,true,true,true,true,true,true,true,true,true,false,true,true,true,false,false,false] rfl rfl (any_of HT_.out (by kernel_rfl)) (fun _ _ _ h => h) (Or.inl ⟨by rfl,?_⟩) ?_ ?_
                rotate_left
                ·intro w'
                 go_simp
                 with_reducible rfl
                rotate_left
                ·simp only [Act.put, qa, qb, qc, i64_w, i32_w]
                 rfl
                refine take_ (i := 20) (N := some 59) (v := ?_) (a' := ?_) #[true,true,true,true,true,true,true,true,true,true,true,true,true,true,true,true,true,true,true,true,true,true,true,true,false,false,false] rfl rfl (take_ofW HT_.out HW_.out (by kernel_rfl)) (fun _ _ _ h => h) (Or.inl ⟨by rfl,?_⟩) hHeld ?_ ?_
                rotate_left
                ·rintro w' ⟨s0, s1, s2, s3, s4, s5, s6, s7, s8, s9, s10, s11, s12, s13, s14, s15, s16, s17, s18, s19⟩
                 go_simp
                 with_reducible rfl
                rotate_left
                ·simp only [Act.put, qa, qb, qc, i64_w, i32_w]
                 rfl
                refine take_ (i := 24) (N := some 63) (v := ?_) (a' := ?_) #[true,true,true,true,true,true,true,true,true,true,true,true,true,true,true,true,true,true,true,true,true,true,true,true,true,false,false] rfl rfl (take_ofW HT_.out HW_.out (by kernel_rfl)) (fun _ _ _ h => h) (Or.inl ⟨by rfl,?_⟩) hHeld ?_ ?_
                rotate_left
                ·rintro w' ⟨s0, s1, s2, s3, s4, s5, s6, s7, s8, s9, s10, s11, s12, s13, s14, s15, s16, s17, s18, s19⟩
                 go_simp
                 with_reducible rfl
                rotate_left
                ·simp only [Act.put, qa, qb, qc, i64_w, i32_w]
                 rfl
                refine one_ (i := 25) (N := some 64) #[true,true,true,true,true,true,true,true,true,true,true,true,true,true,true,true,true,true,true,true,true,true,true,true,true,true,false] rfl rfl (one_of HT_.out (by kernel_rfl)) (by decide) (fun K hK => ?_)
                refine goes_ Try.func23 (by kernel_rfl) rfl #[.agg #[.int .i64 ((rd_T27 l0 x9_3).f0),.int .i64 ((rd_T27 l0 x9_3).f1.f0),.int .i64 ((rd_T27 l0 x9_3).f1.f1),.int .i64 ((rd_T27 l0 x9_3).f1.f2),.slice ((rd_T27 l0 x9_3).f2).a ((rd_T27 l0 x9_3).f2).n ((rd_T27 l0 x9_3).f2).c],.agg #[.int .i64 ((rd_T27 l0 x7_1).f0),.int .i64 ((rd_T27 l0 x7_1).f1.f0),.int .i64 ((rd_T27 l0 x7_1).f1.f1),.int .i64 ((rd_T27 l0 x7_1).f1.f2),.slice ((rd_T27 l0 x7_1).f2).a ((rd_T27 l0 x7_1).f2).n ((rd_T27 l0 x7_1).f2).c]] (by rfl) rfl rfl (by (try simp only [List.map_toArray,List.map_cons,List.map_nil]);first|done|rfl|(simp only [List.length_drop,List.length_take];rfl)) ?_
                with_reducible refine (strakeref18_newer.calls ((rd_T27 l0 x9_3).f0) ((rd_T27 l0 x9_3).f1.f0) ((rd_T27 l0 x9_3).f1.f1) ((rd_T27 l0 x9_3).f1.f2) ((rd_T27 l0 x9_3).f2) ((rd_T27 l0 x7_1).f0) ((rd_T27 l0 x7_1).f1.f0) ((rd_T27 l0 x7_1).f1.f1) ((rd_T27 l0 x7_1).f1.f2) ((rd_T27 l0 x7_1).f2) true _ A19.out).mono ?_
                rintro e w23 ⟨rfl, hb⟩
                refine ⟨_, rfl, ?_⟩
                have n0_ := Aside0.mk (below_step (by repeat (first|(with_reducible first|exact HB.out|apply below_alloc|apply pw_below_drewN|apply below_drew1)|exact HB.out)) hb)
                clear HB
                have HB := n0_
                clear n0_
                (try clear hb)
                (try clear hb2)
                (try clear hk)
                (try clear hi)
                refine hK.out _ _ ⟨((HB.out.cell (World.block_lt_of_cell? w _ hw288_0)).trans hw288_0),((HB.out.cell (World.block_lt_of_cell? w _ hw288_1)).trans hw288_1),((HB.out.cell (World.block_lt_of_cell? w _ hw288_2)).trans hw288_2),((HB.out.cell (World.block_lt_of_cell? w _ hw288_3)).trans hw288_3),((HB.out.cell (World.block_lt_of_cell? w _ hw288_4)).trans hw288_4),((HB.out.cell (World.block_lt_of_cell? w _ hw290_0)).trans hw290_0),((HB.out.cell (World.block_lt_of_cell? w _ hw290_1)).trans hw290_1),((HB.out.cell (World.block_lt_of_cell? w _ hw290_2)).trans hw290_2),((HB.out.cell (World.block_lt_of_cell? w _ hw290_3)).trans hw290_3),((HB.out.cell (World.block_lt_of_cell? w _ hw290_4)).trans hw290_4),((HB.out.cell (World.block_lt_of_cell? w _ hw291_0)).trans hw291_0),((HB.out.cell (World.block_lt_of_cell? w _ hw291_1)).trans hw291_1),((HB.out.cell (World.block_lt_of_cell? w _ hw291_2)).trans hw291_2),((HB.out.cell (World.block_lt_of_cell? w _ hw291_3)).trans hw291_3),((HB.out.cell (World.block_lt_of_cell? w _ hw291_4)).trans hw291_4),((HB.out.cell (World.block_lt_of_cell? w _ hw292_0)).trans hw292_0),((HB.out.cell (World.block_lt_of_cell? w _ hw292_1)).trans hw292_1),((HB.out.cell (World.block_lt_of_cell? w _ hw292_2)).trans hw292_2),((HB.out.cell (World.block_lt_of_cell? w _ hw292_3)).trans hw292_3),((HB.out.cell (World.block_lt_of_cell? w _ hw292_4)).trans hw292_4)⟩ (fun hHeld => ?_)
                clear hK K
                refine norm_ (a' := ?_) ?_ ?_
                rotate_left
                ·show Act.put _ (some 64) _ = _
                 simp only [Act.put, qa, qb, qc, i64_w, i32_w]
                 rfl
                refine pure_ (i := 26) (N := some 65) (v := ?_) (a' := ?_) #[true,true,true,true,true,true,true,true,true,true,true,true,true,true,true,true,true,true,true,true,true,true,true,true,true,true,true] rfl rfl (any_of HT_.out (by kernel_rfl)) (fun _ _ _ h => h) (Or.inl ⟨by rfl,?_⟩) ?_ ?_
                rotate_left
                ·intro w'
                 go_simp
                 with_reducible rfl
                rotate_left
                ·simp only [Act.put, qa, qb, qc, i64_w, i32_w]
                 rfl
                refine done_ (done_of HT_.out (by kernel_rfl)) ?_
                try go_wp2
                go_roundg k3
                case measure => have := HK1.out; have := HJ4.out; have := HK3.out; omega
                case rel => exact ⟨(false),(wrap64 (x9_3 + 1)),(by first|rfl|(simp;done)|(simp [*];done)),(by first|rfl|(simp;done)|(simp [*];done)),H',⟨by have := HK1.out;have := HJ4.out;have := HK3.out;omega⟩,⟨by repeat (first|(with_reducible first|exact HB.out|apply below_alloc|apply pw_below_drewN|apply below_drew1)|exact HB.out)⟩⟩
               ·replace c20 := Bool.eq_false_iff.mpr c20
                subst c20
                have H1 : (strakeref18_Best.l1 k3 l0 a1 a2 x7_1 x8_3 (wrap64 (x9_3 + 1))) = some r := by rw [if_neg (show ¬ (false = true) by decide)] at H;exact H
                clear H
                have H := H1
                clear H1
                have H' := Aside0.mk H
                clear H
                try go_wp2
                (try (rw [drewN_self wr];generalize hq_ : World.drewN wr _ = wr;have n0_ : Aside0 (Below w.heap.size w wr) := ⟨by rw [← hq_];exact (by repeat (first|(with_reducible first|exact HB.out|apply below_alloc|apply pw_below_drewN|apply below_drew1)|exact HB.out))⟩;clear HB hq_;have HB := n0_;clear n0_))
                have n0_ := Aside0.mk (below_drew1 HB.out)
                clear HB
                have HB := n0_
                clear n0_
                have p288 : 0 ≤ (x9_3 : Int) := of_decide_eq_true (by first | (with_reducible assumption) | assumption)
                have q288 : x9_3 < (l0.length : Int) := of_decide_eq_true (by first|(with_reducible assumption)|assumption)
                obtain ⟨ad288, e288, hx288_0, hx288_1, hx288_2, hx288_3, hx288_4⟩ := at_T27 HR0.out x9_3 p288 q288
                have hw288_4 := hx288_4
                have hw288_3 := hx288_3
                have hw288_2 := hx288_2
                have hw288_1 := hx288_1
                have hw288_0 := hx288_0
                cases e288
                replace hx288_0 := (HB.out.cell (World.block_lt_of_cell? w _ hx288_0)).trans hx288_0
                replace hx288_1 := (HB.out.cell (World.block_lt_of_cell? w _ hx288_1)).trans hx288_1
                replace hx288_2 := (HB.out.cell (World.block_lt_of_cell? w _ hx288_2)).trans hx288_2
                replace hx288_3 := (HB.out.cell (World.block_lt_of_cell? w _ hx288_3)).trans hx288_3
                replace hx288_4 := (HB.out.cell (World.block_lt_of_cell? w _ hx288_4)).trans hx288_4
                replace p288 := eq_true p288
                replace q288 := eq_true q288
                have p290 : 0 ≤ (x9_3 : Int) := of_decide_eq_true (by first | (with_reducible assumption) | assumption)
                have q290 : x9_3 < (l0.length : Int) := of_decide_eq_true (by first|(with_reducible assumption)|assumption)
                obtain ⟨ad290, e290, hx290_0, hx290_1, hx290_2, hx290_3, hx290_4⟩ := at_T27 HR0.out x9_3 p290 q290
                have hw290_4 := hx290_4
                have hw290_3 := hx290_3
                have hw290_2 := hx290_2
                have hw290_1 := hx290_1
                have hw290_0 := hx290_0
                obtain rfl : ad288 = ad290 := (by injection e290)
                replace hx290_0 := (HB.out.cell (World.block_lt_of_cell? w _ hx290_0)).trans hx290_0
                replace hx290_1 := (HB.out.cell (World.block_lt_of_cell? w _ hx290_1)).trans hx290_1
                replace hx290_2 := (HB.out.cell (World.block_lt_of_cell? w _ hx290_2)).trans hx290_2
                replace hx290_3 := (HB.out.cell (World.block_lt_of_cell? w _ hx290_3)).trans hx290_3
                replace hx290_4 := (HB.out.cell (World.block_lt_of_cell? w _ hx290_4)).trans hx290_4
                replace p290 := eq_true p290
                replace q290 := eq_true q290
                have p291 : 0 ≤ (x9_3 : Int) := of_decide_eq_true (by first | (with_reducible assumption) | assumption)
                have q291 : x9_3 < (l0.length : Int) := of_decide_eq_true (by first|(with_reducible assumption)|assumption)
                obtain ⟨ad291, e291, hx291_0, hx291_1, hx291_2, hx291_3, hx291_4⟩ := at_T27 HR0.out x9_3 p291 q291
                have hw291_4 := hx291_4
                have hw291_3 := hx291_3
                have hw291_2 := hx291_2
                have hw291_1 := hx291_1
                have hw291_0 := hx291_0
                obtain rfl : ad288 = ad291 := (by injection e291)
                replace hx291_0 := (HB.out.cell (World.block_lt_of_cell? w _ hx291_0)).trans hx291_0
                replace hx291_1 := (HB.out.cell (World.block_lt_of_cell? w _ hx291_1)).trans hx291_1
                replace hx291_2 := (HB.out.cell (World.block_lt_of_cell? w _ hx291_2)).trans hx291_2
                replace hx291_3 := (HB.out.cell (World.block_lt_of_cell? w _ hx291_3)).trans hx291_3
                replace hx291_4 := (HB.out.cell (World.block_lt_of_cell? w _ hx291_4)).trans hx291_4
                replace p291 := eq_true p291
                replace q291 := eq_true q291
                have p292 : 0 ≤ (x7_1 : Int) := of_decide_eq_true (by first | (with_reducible assumption) | assumption)
                have q292 : x7_1 < (l0.length : Int) := of_decide_eq_true (by first|(with_reducible assumption)|assumption)
                obtain ⟨ad292, e292, hx292_0, hx292_1, hx292_2, hx292_3, hx292_4⟩ := at_T27 HR0.out x7_1 p292 q292
                have hw292_4 := hx292_4
                have hw292_3 := hx292_3
                have hw292_2 := hx292_2
                have hw292_1 := hx292_1
                have hw292_0 := hx292_0
                obtain rfl : ad288 = ad292 := (by injection e292)
                replace hx292_0 := (HB.out.cell (World.block_lt_of_cell? w _ hx292_0)).trans hx292_0
                replace hx292_1 := (HB.out.cell (World.block_lt_of_cell? w _ hx292_1)).trans hx292_1
                replace hx292_2 := (HB.out.cell (World.block_lt_of_cell? w _ hx292_2)).trans hx292_2
                replace hx292_3 := (HB.out.cell (World.block_lt_of_cell? w _ hx292_3)).trans hx292_3
                replace hx292_4 := (HB.out.cell (World.block_lt_of_cell? w _ hx292_4)).trans hx292_4
                replace p292 := eq_true p292
                replace q292 := eq_true q292
                refine start_ (n := 27) (S := fun w' => w'.cell? (ad288.add ((x9_3).toNat * 5)) = some (.int .i64 ((rd_T27 l0 x9_3).f0)) ∧ w'.cell? ⟨(ad288.add ((x9_3).toNat * 5)).block,(ad288.add ((x9_3).toNat * 5)).off + 1,none⟩ = some (.int .i64 ((rd_T27 l0 x9_3).f1.f0)) ∧ w'.cell? ⟨(ad288.add ((x9_3).toNat * 5)).block,(ad288.add ((x9_3).toNat * 5)).off + 2,none⟩ = some (.int .i64 ((rd_T27 l0 x9_3).f1.f1)) ∧ w'.cell? ⟨(ad288.add ((x9_3).toNat * 5)).block,(ad288.add ((x9_3).toNat * 5)).off + 3,none⟩ = some (.int .i64 ((rd_T27 l0 x9_3).f1.f2)) ∧ w'.cell? ⟨(ad288.add ((x9_3).toNat * 5)).block,(ad288.add ((x9_3).toNat * 5)).off + 4,none⟩ = some (.slice ((rd_T27 l0 x9_3).f2).a ((rd_T27 l0 x9_3).f2).n ((rd_T27 l0 x9_3).f2).c) ∧ w'.cell? (ad288.add ((x9_3).toNat * 5)) = some (.int .i64 ((rd_T27 l0 x9_3).f0)) ∧ w'.cell? ⟨(ad288.add ((x9_3).toNat * 5)).block,(ad288.add ((x9_3).toNat * 5)).off + 1,none⟩ = some (.int .i64 ((rd_T27 l0 x9_3).f1.f0)) ∧ w'.cell? ⟨(ad288.add ((x9_3).toNat * 5)).block,(ad288.add ((x9_3).toNat * 5)).off + 2,none⟩ = some (.int .i64 ((rd_T27 l0 x9_3).f1.f1)) ∧ w'.cell? ⟨(ad288.add ((x9_3).toNat * 5)).block,(ad288.add ((x9_3).toNat * 5)).off + 3,none⟩ = some (.int .i64 ((rd_T27 l0 x9_3).f1.f2)) ∧ w'.cell? ⟨(ad288.add ((x9_3).toNat * 5)).block,(ad288.add ((x9_3).toNat * 5)).off + 4,none⟩ = some (.slice ((rd_T27 l0 x9_3).f2).a ((rd_T27 l0 x9_3).f2).n ((rd_T27 l0 x9_3).f2).c) ∧ w'.cell? (ad288.add ((x9_3).toNat * 5)) = some (.int .i64 ((rd_T27 l0 x9_3).f0)) ∧ w'.cell? ⟨(ad288.add ((x9_3).toNat * 5)).block,(ad288.add ((x9_3).toNat * 5)).off + 1,none⟩ = some (.int .i64 ((rd_T27 l0 x9_3).f1.f0)) ∧ w'.cell? ⟨(ad288.add ((x9_3).toNat * 5)).block,(ad288.add ((x9_3).toNat * 5)).off + 2,none⟩ = some (.int .i64 ((rd_T27 l0 x9_3).f1.f1)) ∧ w'.cell? ⟨(ad288.add ((x9_3).toNat * 5)).block,(ad288.add ((x9_3).toNat * 5)).off + 3,none⟩ = some (.int .i64 ((rd_T27 l0 x9_3).f1.f2)) ∧ w'.cell? ⟨(ad288.add ((x9_3).toNat * 5)).block,(ad288.add ((x9_3).toNat * 5)).off + 4,none⟩ = some (.slice ((rd_T27 l0 x9_3).f2).a ((rd_T27 l0 x9_3).f2).n ((rd_T27 l0 x9_3).f2).c) ∧ w'.cell? (ad288.add ((x7_1).toNat * 5)) = some (.int .i64 ((rd_T27 l0 x7_1).f0)) ∧ w'.cell? ⟨(ad288.add ((x7_1).toNat * 5)).block,(ad288.add ((x7_1).toNat * 5)).off + 1,none⟩ = some (.int .i64 ((rd_T27 l0 x7_1).f1.f0)) ∧ w'.cell? ⟨(ad288.add ((x7_1).toNat * 5)).block,(ad288.add ((x7_1).toNat * 5)).off + 2,none⟩ = some (.int .i64 ((rd_T27 l0 x7_1).f1.f1)) ∧ w'.cell? ⟨(ad288.add ((x7_1).toNat * 5)).block,(ad288.add ((x7_1).toNat * 5)).off + 3,none⟩ = some (.int .i64 ((rd_T27 l0 x7_1).f1.f2)) ∧ w'.cell? ⟨(ad288.add ((x7_1).toNat * 5)).block,(ad288.add ((x7_1).toNat * 5)).off + 4,none⟩ = some (.slice ((rd_T27 l0 x7_1).f2).a ((rd_T27 l0 x7_1).f2).n ((rd_T27 l0 x7_1).f2).c)) (ds := []) #[false,false,false,false,false,false,false,false,false,false,false,false,false,false,false,false,false,false,false,false,false,false,false,false,false,false,false] (by kernel_rfl) rfl rfl ⟨((HB.out.cell (World.block_lt_of_cell? w _ hw288_0)).trans hw288_0),((HB.out.cell (World.block_lt_of_cell? w _ hw288_1)).trans hw288_1),((HB.out.cell (World.block_lt_of_cell? w _ hw288_2)).trans hw288_2),((HB.out.cell (World.block_lt_of_cell? w _ hw288_3)).trans hw288_3),((HB.out.cell (World.block_lt_of_cell? w _ hw288_4)).trans hw288_4),((HB.out.cell (World.block_lt_of_cell? w _ hw290_0)).trans hw290_0),((HB.out.cell (World.block_lt_of_cell? w _ hw290_1)).trans hw290_1),((HB.out.cell (World.block_lt_of_cell? w _ hw290_2)).trans hw290_2),((HB.out.cell (World.block_lt_of_cell? w _ hw290_3)).trans hw290_3),((HB.out.cell (World.block_lt_of_cell? w _ hw290_4)).trans hw290_4),((HB.out.cell (World.block_lt_of_cell? w _ hw291_0)).trans hw291_0),((HB.out.cell (World.block_lt_of_cell? w _ hw291_1)).trans hw291_1),((HB.out.cell (World.block_lt_of_cell? w _ hw291_2)).trans hw291_2),((HB.out.cell (World.block_lt_of_cell? w _ hw291_3)).trans hw291_3),((HB.out.cell (World.block_lt_of_cell? w _ hw291_4)).trans hw291_4),((HB.out.cell (World.block_lt_of_cell? w _ hw292_0)).trans hw292_0),((HB.out.cell (World.block_lt_of_cell? w _ hw292_1)).trans hw292_1),((HB.out.cell (World.block_lt_of_cell? w _ hw292_2)).trans hw292_2),((HB.out.cell (World.block_lt_of_cell? w _ hw292_3)).trans hw292_3),((HB.out.cell (World.block_lt_of_cell? w _ hw292_4)).trans hw292_4)⟩ (fun hHeld => ?_);refine with_tabW strakeref18_Best.tab9 strakeref18_Best.bits9 (fun HT_ HW_ => ?_)
                generalize wr.drew = w24 at HB hx288_0 hx288_1 hx288_2 hx288_3 hx288_4 hx290_0 hx290_1 hx290_2 hx290_3 hx290_4 hx291_0 hx291_1 hx291_2 hx291_3 hx291_4 hx292_0 hx292_1 hx292_2 hx292_3 hx292_4 hHeld ⊢
                refine pure_ (i := 0) (N := some 39) (v := ?_) (a' := ?_) #[true,false,false,false,false,false,false,false,false,false,false,false,false,false,false,false,false,false,false,false,false,false,false,false,false,false,false] rfl rfl (any_of HT_.out (by kernel_rfl)) (fun _ _ _ h => h) (Or.inl ⟨by rfl,?_⟩) ?_ ?_
                rotate_left
                ·intro w'
                 go_simp
                 with_reducible rfl
                rotate_left
                ·simp only [Act.put, qa, qb, qc, i64_w, i32_w]
                 rfl
                refine pure_ (i := 1) (N := some 40) (v := ?_) (a' := ?_) #[true,true,false,false,false,false,false,false,false,false,false,false,false,false,false,false,false,false,false,false,false,false,false,false,false,false,false] rfl rfl (any_of HT_.out (by kernel_rfl)) (fun _ _ _ h => h) (Or.inl ⟨by rfl,?_⟩) ?_ ?_
                rotate_left
                ·intro w'
                 go_simp
                 with_reducible rfl
                rotate_left
                ·simp only [Act.put, qa, qb, qc, i64_w, i32_w]
                 rfl
                refine pure_ (i := 2) (N := some 41) (v := ?_) (a' := ?_) #[true,true,true,false,false,false,false,false,false,false,false,false,false,false,false,false,false,false,false,false,false,false,false,false,false,false,false] rfl rfl (any_of HT_.out (by kernel_rfl)) (fun _ _ _ h => h) (Or.inl ⟨by rfl,?_⟩) ?_ ?_
                rotate_left
                ·intro w'
                 go_simp
                 with_reducible rfl
                rotate_left
                ·simp only [Act.put, qa, qb, qc, i64_w, i32_w]
                 rfl
                refine pure_ (i := 4) (N := some 43) (v := ?_) (a' := ?_) #[true,true,true,false,true,false,false,false,false,false,false,false,false,false,false,false,false,false,false,false,false,false,false,false,false,false,false] rfl rfl (any_of HT_.out (by kernel_rfl)) (fun _ _ _ h => h) (Or.inl ⟨by rfl,?_⟩) ?_ ?_
                rotate_left
                ·intro w'
                 go_simp
                 with_reducible rfl
                rotate_left
                ·simp only [Act.put, qa, qb, qc, i64_w, i32_w]
                 rfl
                refine take_ (i := 3) (N := some 42) (v := ?_) (a' := ?_) #[true,true,true,true,true,false,false,false,false,false,false,false,false,false,false,false,false,false,false,false,false,false,false,false,false,false,false] rfl rfl (take_ofW HT_.out HW_.out (by kernel_rfl)) (fun _ _ _ h => h) (Or.inl ⟨by rfl,?_⟩) hHeld ?_ ?_
                rotate_left
                ·rintro w' ⟨s0, s1, s2, s3, s4, s5, s6, s7, s8, s9, s10, s11, s12, s13, s14, s15, s16, s17, s18, s19⟩
                 go_simp
                 with_reducible rfl
                rotate_left
                ·simp only [Act.put, qa, qb, qc, i64_w, i32_w]
                 rfl
                refine one_ (i := 5) (N := some 44) #[true,true,true,true,true,true,false,false,false,false,false,false,false,false,false,false,false,false,false,false,false,false,false,false,false,false,false] rfl rfl (one_of HT_.out (by kernel_rfl)) (by decide) (fun K hK => ?_)
                refine goes_ Try.func21 (by kernel_rfl) rfl #[.agg #[.int .i64 ((rd_T27 l0 x9_3).f0),.int .i64 ((rd_T27 l0 x9_3).f1.f0),.int .i64 ((rd_T27 l0 x9_3).f1.f1),.int .i64 ((rd_T27 l0 x9_3).f1.f2),.slice ((rd_T27 l0 x9_3).f2).a ((rd_T27 l0 x9_3).f2).n ((rd_T27 l0 x9_3).f2).c],.int .i64 a1] (by rfl) rfl rfl (by (try simp only [List.map_toArray,List.map_cons,List.map_nil]);first|done|rfl|(simp only [List.length_drop,List.length_take];rfl)) ?_
                with_reducible refine (strakeref18_counts.calls ((rd_T27 l0 x9_3).f0) ((rd_T27 l0 x9_3).f1.f0) ((rd_T27 l0 x9_3).f1.f1) ((rd_T27 l0 x9_3).f1.f2) ((rd_T27 l0 x9_3).f2) a1 true _ A14.out).mono ?_
                rintro e w25 ⟨rfl, hb⟩
                refine ⟨_, rfl, ?_⟩
                have n0_ := Aside0.mk (below_step (by repeat (first|(with_reducible first|exact HB.out|apply below_alloc|apply pw_below_drewN|apply below_drew1)|exact HB.out)) hb)
                clear HB
                have HB := n0_
                clear n0_
                (try clear hb)
                (try clear hb2)
                (try clear hk)
                (try clear hi)
                refine hK.out _ _ ⟨((HB.out.cell (World.block_lt_of_cell? w _ hw288_0)).trans hw288_0),((HB.out.cell (World.block_lt_of_cell? w _ hw288_1)).trans hw288_1),((HB.out.cell (World.block_lt_of_cell? w _ hw288_2)).trans hw288_2),((HB.out.cell (World.block_lt_of_cell? w _ hw288_3)).trans hw288_3),((HB.out.cell (World.block_lt_of_cell? w _ hw288_4)).trans hw288_4),((HB.out.cell (World.block_lt_of_cell? w _ hw290_0)).trans hw290_0),((HB.out.cell (World.block_lt_of_cell? w _ hw290_1)).trans hw290_1),((HB.out.cell (World.block_lt_of_cell? w _ hw290_2)).trans hw290_2),((HB.out.cell (World.block_lt_of_cell? w _ hw290_3)).trans hw290_3),((HB.out.cell (World.block_lt_of_cell? w _ hw290_4)).trans hw290_4),((HB.out.cell (World.block_lt_of_cell? w _ hw291_0)).trans hw291_0),((HB.out.cell (World.block_lt_of_cell? w _ hw291_1)).trans hw291_1),((HB.out.cell (World.block_lt_of_cell? w _ hw291_2)).trans hw291_2),((HB.out.cell (World.block_lt_of_cell? w _ hw291_3)).trans hw291_3),((HB.out.cell (World.block_lt_of_cell? w _ hw291_4)).trans hw291_4),((HB.out.cell (World.block_lt_of_cell? w _ hw292_0)).trans hw292_0),((HB.out.cell (World.block_lt_of_cell? w _ hw292_1)).trans hw292_1),((HB.out.cell (World.block_lt_of_cell? w _ hw292_2)).trans hw292_2),((HB.out.cell (World.block_lt_of_cell? w _ hw292_3)).trans hw292_3),((HB.out.cell (World.block_lt_of_cell? w _ hw292_4)).trans hw292_4)⟩ (fun hHeld => ?_)
                clear hK K
                refine norm_ (a' := ?_) ?_ ?_
                rotate_left
                ·show Act.put _ (some 44) _ = _
                 simp only [Act.put, qa, qb, qc, i64_w, i32_w]
                 rfl
                refine pure_ (i := 6) (N := some 45) (v := ?_) (a' := ?_) #[true,true,true,true,true,true,true,false,false,false,false,false,false,false,false,false,false,false,false,false,false,false,false,false,false,false,false] rfl rfl (any_of HT_.out (by kernel_rfl)) (fun _ _ _ h => h) (Or.inl ⟨by rfl,?_⟩) ?_ ?_
                rotate_left
                ·intro w'
                 go_simp
                 with_reducible rfl
                rotate_left
                ·simp only [Act.put, qa, qb, qc, i64_w, i32_w]
                 rfl
                refine pure_ (i := 7) (N := some 46) (v := ?_) (a' := ?_) #[true,true,true,true,true,true,true,true,false,false,false,false,false,false,false,false,false,false,false,false,false,false,false,false,false,false,false] rfl rfl (any_of HT_.out (by kernel_rfl)) (fun _ _ _ h => h) (Or.inl ⟨by rfl,?_⟩) ?_ ?_
                rotate_left
                ·intro w'
                 go_simp
                 with_reducible rfl
                rotate_left
                ·simp only [Act.put, qa, qb, qc, i64_w, i32_w]
                 rfl
                refine pure_ (i := 8) (N := some 47) (v := ?_) (a' := ?_) #[true,true,true,true,true,true,true,true,true,false,false,false,false,false,false,false,false,false,false,false,false,false,false,false,false,false,false] rfl rfl (any_of HT_.out (by kernel_rfl)) (fun _ _ _ h => h) (Or.inl ⟨by rfl,?_⟩) ?_ ?_
                rotate_left
                ·intro w'
                 go_simp
                 with_reducible rfl
                rotate_left
                ·simp only [Act.put, qa, qb, qc, i64_w, i32_w]
                 rfl
                refine pure_ (i := 9) (N := some 48) (v := ?_) (a' := ?_) #[true,true,true,true,true,true,true,true,true,true,false,false,false,false,false,false,false,false,false,false,false,false,false,false,false,false,false] rfl rfl (any_of HT_.out (by kernel_rfl)) (fun _ _ _ h => h) (Or.inl ⟨by rfl,?_⟩) ?_ ?_
                rotate_left
                ·intro w'
                 go_simp
                 with_reducible rfl
                rotate_left
                ·simp only [Act.put, qa, qb, qc, i64_w, i32_w]
                 rfl
                refine pure_ (i := 10) (N := some 49) (v := ?_) (a' := ?_) #[true,true,true,true,true,true,true,true,true,true,true,false,false,false,false,false,false,false,false,false,false,false,false,false,false,false,false] rfl rfl (any_of HT_.out (by kernel_rfl)) (fun _ _ _ h => h) (Or.inl ⟨by rfl,?_⟩) ?_ ?_
                rotate_left
                ·intro w'
                 go_simp
                 with_reducible rfl
                rotate_left
                ·simp only [Act.put, qa, qb, qc, i64_w, i32_w]
                 rfl
                refine pure_ (i := 11) (N := some 50) (v := ?_) (a' := ?_) #[true,true,true,true,true,true,true,true,true,true,true,true,false,false,false,false,false,false,false,false,false,false,false,false,false,false,false] rfl rfl (any_of HT_.out (by kernel_rfl)) (fun _ _ _ h => h) (Or.inl ⟨by rfl,?_⟩) ?_ ?_
                rotate_left
                ·intro w'
                 go_simp
                 with_reducible rfl
                rotate_left
                ·simp only [Act.put, qa, qb, qc, i64_w, i32_w]
                 rfl
                refine pure_ (i := 13) (N := some 52) (v := ?_) (a' := ?_) #[true,true,true,true,true,true,true,true,true,true,true,true,false,true,false,false,false,false,false,false,false,false,false,false,false,false,false] rfl rfl (any_of HT_.out (by kernel_rfl)) (fun _ _ _ h => h) (Or.inl ⟨by rfl,?_⟩) ?_ ?_
                rotate_left
                ·intro w'
                 go_simp
                 with_reducible rfl
                rotate_left
                ·simp only [Act.put, qa, qb, qc, i64_w, i32_w]
                 rfl
                refine take_ (i := 12) (N := some 51) (v := ?_) (a' := ?_) #[true,true,true,true,true,true,true,true,true,true,true,true,true,true,false,false,false,false,false,false,false,false,false,false,false,false,false] rfl rfl (take_ofW HT_.out HW_.out (by kernel_rfl)) (fun _ _ _ h => h) (Or.inl ⟨by rfl,?_⟩) hHeld ?_ ?_
                rotate_left
                ·rintro w' ⟨s0, s1, s2, s3, s4, s5, s6, s7, s8, s9, s10, s11, s12, s13, s14, s15, s16, s17, s18, s19⟩
                 go_simp
                 with_reducible rfl
                rotate_left
                ·simp only [Act.put, qa, qb, qc, i64_w, i32_w]
                 rfl
                refine pure_ (i := 14) (N := some 53) (v := ?_) (a' := ?_) #[true,true,true,true,true,true,true,true,true,true,true,true,true,true,true,false,false,false,false,false,false,false,false,false,false,false,false] rfl rfl (any_of HT_.out (by kernel_rfl)) (fun _ _ _ h => h) (Or.inl ⟨by rfl,?_⟩) ?_ ?_
                rotate_left
                ·intro w'
                 go_simp
                 with_reducible rfl
                rotate_left
                ·simp only [Act.put, qa, qb, qc, i64_w, i32_w]
                 rfl
                refine pure_ (i := 15) (N := some 54) (v := ?_) (a' := ?_) #[true,true,true,true,true,true,true,true,true,true,true,true,true,true,true,true,false,false,false,false,false,false,false,false,false,false,false] rfl rfl (any_of HT_.out (by kernel_rfl)) (fun _ _ _ h => h) (Or.inl ⟨by rfl,?_⟩) ?_ ?_
                rotate_left
                ·intro w'
                 go_simp
                 with_reducible rfl
                rotate_left
                ·simp only [Act.put, qa, qb, qc, i64_w, i32_w]
                 rfl
                refine pure_ (i := 16) (N := some 55) (v := ?_) (a' := ?_) #[true,true,true,true,true,true,true,true,true,true,true,true,true,true,true,true,true,false,false,false,false,false,false,false,false,false,false] rfl rfl (any_of HT_.out (by kernel_rfl)) (fun _ _ _ h => h) (Or.inl ⟨by rfl,?_⟩) ?_ ?_
                rotate_left
                ·intro w'
                 go_simp
                 with_reducible rfl
                rotate_left
                ·simp only [Act.put, qa, qb, qc, i64_w, i32_w]
                 rfl
                refine pure_ (i := 17) (N := some 56) (v := ?_) (a' := ?_) #[true,true,true,true,true,true,true,true,true,true,true,true,true,true,true,true,true,true,false,false,false,false,false,false,false,false,false] rfl rfl (any_of HT_.out (by kernel_rfl)) (fun _ _ _ h => h) (Or.inl ⟨by rfl,?_⟩) ?_ ?_
                rotate_left
                ·intro w'
                 go_simp
                 with_reducible rfl
                rotate_left
                ·simp only [Act.put, qa, qb, qc, i64_w, i32_w]
                 rfl
                refine pure_ (i := 18) (N := some 57) (v := ?_) (a' := ?_) #[true,true,true,true,true,true,true,true,true,true,true,true,true,true,true,true,true,true,true,false,false,false,false,false,false,false,false] rfl rfl (any_of HT_.out (by kernel_rfl)) (fun _ _ _ h => h) (Or.inl ⟨by rfl,?_⟩) ?_ ?_
                rotate_left
                ·intro w'
                 go_simp
                 with_reducible rfl
                rotate_left
                ·simp only [Act.put, qa, qb, qc, i64_w, i32_w]
                 rfl
                refine pure_ (i := 19) (N := some 58) (v := ?_) (a' := ?_) #[true,true,true,true,true,true,true,true,true,true,true,true,true,true,true,true,true,true,true,true,false,false,false,false,false,false,false] rfl rfl (any_of HT_.out (by kernel_rfl)) (fun _ _ _ h => h) (Or.inl ⟨by rfl,?_⟩) ?_ ?_
                rotate_left
                ·intro w'
                 go_simp
                 with_reducible rfl
                rotate_left
                ·simp only [Act.put, qa, qb, qc, i64_w, i32_w]
                 rfl
                refine pure_ (i := 21) (N := some 60) (v := ?_) (a' := ?_) #[true,true,true,true,true,true,true,true,true,true,true,true,true,true,true,true,true,true,true,true,false,true,false,false,false,false,false] rfl rfl (any_of HT_.out (by kernel_rfl)) (fun _ _ _ h => h) (Or.inl ⟨by rfl,?_⟩) ?_ ?_
                rotate_left
                ·intro w'
                 go_simp
                 with_reducible rfl
                rotate_left
                ·simp only [Act.put, qa, qb, qc, i64_w, i32_w]
                 rfl
                refine pure_ (i := 22) (N := some 61) (v := ?_) (a' := ?_) #[true,true,true,true,true,true,true,true,true,true,true,true,true,true,true,true,true,true,true,true,false,true,true,false,false,false,false] rfl rfl (any_of HT_.out (by kernel_rfl)) (fun _ _ _ h => h) (Or.inl ⟨by rfl,?_⟩) ?_ ?_
                rotate_left
                ·intro w'
                 go_simp
                 with_reducible rfl
                rotate_left
                ·simp only [Act.put, qa, qb, qc, i64_w, i32_w]
                 rfl
                refine pure_ (i := 23) (N := some 62) (v := ?_) (a' := ?_) #[true,true,true,true,true,true,true,true,true,true,true,true,true,true,true,true,true,true,true,true,false,true,true,true,false,false,false] rfl rfl (any_of HT_.out (by kernel_rfl)) (fun _ _ _ h => h) (Or.inl ⟨by rfl,?_⟩) ?_ ?_
                rotate_left
                ·intro w'
                 go_simp
                 with_reducible rfl
                rotate_left
                ·simp only [Act.put, qa, qb, qc, i64_w, i32_w]
                 rfl
                refine take_ (i := 20) (N := some 59) (v := ?_) (a' := ?_) #[true,true,true,true,true,true,true,true,true,true,true,true,true,true,true,true,true,true,true,true,true,true,true,true,false,false,false] rfl rfl (take_ofW HT_.out HW_.out (by kernel_rfl)) (fun _ _ _ h => h) (Or.inl ⟨by rfl,?_⟩) hHeld ?_ ?_
                rotate_left
                ·rintro w' ⟨s0, s1, s2, s3, s4, s5, s6, s7, s8, s9, s10, s11, s12, s13, s14, s15, s16, s17, s18, s19⟩
                 go_simp
                 with_reducible rfl
                rotate_left
                ·simp only [Act.put, qa, qb, qc, i64_w, i32_w]
                 rfl
                refine take_ (i := 24) (N := some 63) (v := ?_) (a' := ?_) #[true,true,true,true,true,true,true,true,true,true,true,true,true,true,true,true,true,true,true,true,true,true,true,true,true,false,false] rfl rfl (take_ofW HT_.out HW_.out (by kernel_rfl)) (fun _ _ _ h => h) (Or.inl ⟨by rfl,?_⟩) hHeld ?_ ?_
                rotate_left
                ·rintro w' ⟨s0, s1, s2, s3, s4, s5, s6, s7, s8, s9, s10, s11, s12, s13, s14, s15, s16, s17, s18, s19⟩
                 go_simp
                 with_reducible rfl
                rotate_left
                ·simp only [Act.put, qa, qb, qc, i64_w, i32_w]
                 rfl
                refine one_ (i := 25) (N := some 64) #[true,true,true,true,true,true,true,true,true,true,true,true,true,true,true,true,true,true,true,true,true,true,true,true,true,true,false] rfl rfl (one_of HT_.out (by kernel_rfl)) (by decide) (fun K hK => ?_)
                refine goes_ Try.func23 (by kernel_rfl) rfl #[.agg #[.int .i64 ((rd_T27 l0 x9_3).f0),.int .i64 ((rd_T27 l0 x9_3).f1.f0),.int .i64 ((rd_T27 l0 x9_3).f1.f1),.int .i64 ((rd_T27 l0 x9_3).f1.f2),.slice ((rd_T27 l0 x9_3).f2).a ((rd_T27 l0 x9_3).f2).n ((rd_T27 l0 x9_3).f2).c],.agg #[.int .i64 ((rd_T27 l0 x7_1).f0),.int .i64 ((rd_T27 l0 x7_1).f1.f0),.int .i64 ((rd_T27 l0 x7_1).f1.f1),.int .i64 ((rd_T27 l0 x7_1).f1.f2),.slice ((rd_T27 l0 x7_1).f2).a ((rd_T27 l0 x7_1).f2).n ((rd_T27 l0 x7_1).f2).c]] (by rfl) rfl rfl (by (try simp only [List.map_toArray,List.map_cons,List.map_nil]);first|done|rfl|(simp only [List.length_drop,List.length_take];rfl)) ?_
                with_reducible refine (strakeref18_newer.calls ((rd_T27 l0 x9_3).f0) ((rd_T27 l0 x9_3).f1.f0) ((rd_T27 l0 x9_3).f1.f1) ((rd_T27 l0 x9_3).f1.f2) ((rd_T27 l0 x9_3).f2) ((rd_T27 l0 x7_1).f0) ((rd_T27 l0 x7_1).f1.f0) ((rd_T27 l0 x7_1).f1.f1) ((rd_T27 l0 x7_1).f1.f2) ((rd_T27 l0 x7_1).f2) false _ A19.out).mono ?_
                rintro e w26 ⟨rfl, hb⟩
                refine ⟨_, rfl, ?_⟩
                have n0_ := Aside0.mk (below_step (by repeat (first|(with_reducible first|exact HB.out|apply below_alloc|apply pw_below_drewN|apply below_drew1)|exact HB.out)) hb)
                clear HB
                have HB := n0_
                clear n0_
                (try clear hb)
                (try clear hb2)
                (try clear hk)
                (try clear hi)
                refine hK.out _ _ ⟨((HB.out.cell (World.block_lt_of_cell? w _ hw288_0)).trans hw288_0),((HB.out.cell (World.block_lt_of_cell? w _ hw288_1)).trans hw288_1),((HB.out.cell (World.block_lt_of_cell? w _ hw288_2)).trans hw288_2),((HB.out.cell (World.block_lt_of_cell? w _ hw288_3)).trans hw288_3),((HB.out.cell (World.block_lt_of_cell? w _ hw288_4)).trans hw288_4),((HB.out.cell (World.block_lt_of_cell? w _ hw290_0)).trans hw290_0),((HB.out.cell (World.block_lt_of_cell? w _ hw290_1)).trans hw290_1),((HB.out.cell (World.block_lt_of_cell? w _ hw290_2)).trans hw290_2),((HB.out.cell (World.block_lt_of_cell? w _ hw290_3)).trans hw290_3),((HB.out.cell (World.block_lt_of_cell? w _ hw290_4)).trans hw290_4),((HB.out.cell (World.block_lt_of_cell? w _ hw291_0)).trans hw291_0),((HB.out.cell (World.block_lt_of_cell? w _ hw291_1)).trans hw291_1),((HB.out.cell (World.block_lt_of_cell? w _ hw291_2)).trans hw291_2),((HB.out.cell (World.block_lt_of_cell? w _ hw291_3)).trans hw291_3),((HB.out.cell (World.block_lt_of_cell? w _ hw291_4)).trans hw291_4),((HB.out.cell (World.block_lt_of_cell? w _ hw292_0)).trans hw292_0),((HB.out.cell (World.block_lt_of_cell? w _ hw292_1)).trans hw292_1),((HB.out.cell (World.block_lt_of_cell? w _ hw292_2)).trans hw292_2),((HB.out.cell (World.block_lt_of_cell? w _ hw292_3)).trans hw292_3),((HB.out.cell (World.block_lt_of_cell? w _ hw292_4)).trans hw292_4)⟩ (fun hHeld => ?_)
                clear hK K
                refine norm_ (a' := ?_) ?_ ?_
                rotate_left
                ·show Act.put _ (some 64) _ = _
                 simp only [Act.put, qa, qb, qc, i64_w, i32_w]
                 rfl
                refine pure_ (i := 26) (N := some 65) (v := ?_) (a' := ?_) #[true,true,true,true,true,true,true,true,true,true,true,true,true,true,true,true,true,true,true,true,true,true,true,true,true,true,true] rfl rfl (any_of HT_.out (by kernel_rfl)) (fun _ _ _ h => h) (Or.inl ⟨by rfl,?_⟩) ?_ ?_
                rotate_left
                ·intro w'
                 go_simp
                 with_reducible rfl
                rotate_left
                ·simp only [Act.put, qa, qb, qc, i64_w, i32_w]
                 rfl
                refine done_ (done_of HT_.out (by kernel_rfl)) ?_
                try go_wp2
                go_roundg k3
                case measure => have := HK1.out; have := HJ4.out; have := HK3.out; omega
                case rel => exact ⟨(x8_3),(wrap64 (x9_3 + 1)),(by first|rfl|(simp;done)|(simp [*];done)),(by first|rfl|(simp;done)|(simp [*];done)),H',⟨by have := HK1.out;have := HJ4.out;have := HK3.out;omega⟩,⟨by repeat (first|(with_reducible first|exact HB.out|apply below_alloc|apply pw_below_drewN|apply below_drew1)|exact HB.out)⟩⟩
              ·rw [if_neg c18] at H
               exact absurd H (by simp)
             ·rw [if_neg c17] at H
              exact absurd H (by simp)
            ·rw [if_neg c16] at H
             have c16b0 : (((rd_T27 l0 x9_3).f1.f1) == a2) = false := beq_eq_false_iff_ne.mpr c16
             have c16b1 : (((rd_T27 l0 x9_3).f1.f1) != a2) = true := bne_iff_ne.mpr c16
             have H' := Aside0.mk H
             clear H
             try go_wp2
             (try (rw [drewN_self wr];generalize hq_ : World.drewN wr _ = wr;have n0_ : Aside0 (Below w.heap.size w wr) := ⟨by rw [← hq_];exact (by repeat (first|(with_reducible first|exact HB.out|apply below_alloc|apply pw_below_drewN|apply below_drew1)|exact HB.out))⟩;clear HB hq_;have HB := n0_;clear n0_))
             have n0_ := Aside0.mk (below_drew1 HB.out)
             clear HB
             have HB := n0_
             clear n0_
             have p288 : 0 ≤ (x9_3 : Int) := of_decide_eq_true (by first | (with_reducible assumption) | assumption)
             have q288 : x9_3 < (l0.length : Int) := of_decide_eq_true (by first|(with_reducible assumption)|assumption)
             obtain ⟨ad288, e288, hx288_0, hx288_1, hx288_2, hx288_3, hx288_4⟩ := at_T27 HR0.out x9_3 p288 q288
             have hw288_4 := hx288_4
             have hw288_3 := hx288_3
             have hw288_2 := hx288_2
             have hw288_1 := hx288_1
             have hw288_0 := hx288_0
             cases e288
             replace hx288_0 := (HB.out.cell (World.block_lt_of_cell? w _ hx288_0)).trans hx288_0
             replace hx288_1 := (HB.out.cell (World.block_lt_of_cell? w _ hx288_1)).trans hx288_1
             replace hx288_2 := (HB.out.cell (World.block_lt_of_cell? w _ hx288_2)).trans hx288_2
             replace hx288_3 := (HB.out.cell (World.block_lt_of_cell? w _ hx288_3)).trans hx288_3
             replace hx288_4 := (HB.out.cell (World.block_lt_of_cell? w _ hx288_4)).trans hx288_4
             replace p288 := eq_true p288
             replace q288 := eq_true q288
             have p290 : 0 ≤ (x9_3 : Int) := of_decide_eq_true (by first | (with_reducible assumption) | assumption)
             have q290 : x9_3 < (l0.length : Int) := of_decide_eq_true (by first|(with_reducible assumption)|assumption)
             obtain ⟨ad290, e290, hx290_0, hx290_1, hx290_2, hx290_3, hx290_4⟩ := at_T27 HR0.out x9_3 p290 q290
             have hw290_4 := hx290_4
             have hw290_3 := hx290_3
             have hw290_2 := hx290_2
             have hw290_1 := hx290_1
             have hw290_0 := hx290_0
             obtain rfl : ad288 = ad290 := (by injection e290)
             replace hx290_0 := (HB.out.cell (World.block_lt_of_cell? w _ hx290_0)).trans hx290_0
             replace hx290_1 := (HB.out.cell (World.block_lt_of_cell? w _ hx290_1)).trans hx290_1
             replace hx290_2 := (HB.out.cell (World.block_lt_of_cell? w _ hx290_2)).trans hx290_2
             replace hx290_3 := (HB.out.cell (World.block_lt_of_cell? w _ hx290_3)).trans hx290_3
             replace hx290_4 := (HB.out.cell (World.block_lt_of_cell? w _ hx290_4)).trans hx290_4
             replace p290 := eq_true p290
             replace q290 := eq_true q290
             refine start_ (n := 27) (S := fun w' => w'.cell? (ad288.add ((x9_3).toNat * 5)) = some (.int .i64 ((rd_T27 l0 x9_3).f0)) ∧ w'.cell? ⟨(ad288.add ((x9_3).toNat * 5)).block,(ad288.add ((x9_3).toNat * 5)).off + 1,none⟩ = some (.int .i64 ((rd_T27 l0 x9_3).f1.f0)) ∧ w'.cell? ⟨(ad288.add ((x9_3).toNat * 5)).block,(ad288.add ((x9_3).toNat * 5)).off + 2,none⟩ = some (.int .i64 ((rd_T27 l0 x9_3).f1.f1)) ∧ w'.cell? ⟨(ad288.add ((x9_3).toNat * 5)).block,(ad288.add ((x9_3).toNat * 5)).off + 3,none⟩ = some (.int .i64 ((rd_T27 l0 x9_3).f1.f2)) ∧ w'.cell? ⟨(ad288.add ((x9_3).toNat * 5)).block,(ad288.add ((x9_3).toNat * 5)).off + 4,none⟩ = some (.slice ((rd_T27 l0 x9_3).f2).a ((rd_T27 l0 x9_3).f2).n ((rd_T27 l0 x9_3).f2).c) ∧ w'.cell? (ad288.add ((x9_3).toNat * 5)) = some (.int .i64 ((rd_T27 l0 x9_3).f0)) ∧ w'.cell? ⟨(ad288.add ((x9_3).toNat * 5)).block,(ad288.add ((x9_3).toNat * 5)).off + 1,none⟩ = some (.int .i64 ((rd_T27 l0 x9_3).f1.f0)) ∧ w'.cell? ⟨(ad288.add ((x9_3).toNat * 5)).block,(ad288.add ((x9_3).toNat * 5)).off + 2,none⟩ = some (.int .i64 ((rd_T27 l0 x9_3).f1.f1)) ∧ w'.cell? ⟨(ad288.add ((x9_3).toNat * 5)).block,(ad288.add ((x9_3).toNat * 5)).off + 3,none⟩ = some (.int .i64 ((rd_T27 l0 x9_3).f1.f2)) ∧ w'.cell? ⟨(ad288.add ((x9_3).toNat * 5)).block,(ad288.add ((x9_3).toNat * 5)).off + 4,none⟩ = some (.slice ((rd_T27 l0 x9_3).f2).a ((rd_T27 l0 x9_3).f2).n ((rd_T27 l0 x9_3).f2).c)) (ds := []) #[false,false,false,false,false,false,false,false,false,false,false,false,false,false,false,false,false,false,false,false,false,false,false,false,false,false,false] (by kernel_rfl) rfl rfl ⟨((HB.out.cell (World.block_lt_of_cell? w _ hw288_0)).trans hw288_0),((HB.out.cell (World.block_lt_of_cell? w _ hw288_1)).trans hw288_1),((HB.out.cell (World.block_lt_of_cell? w _ hw288_2)).trans hw288_2),((HB.out.cell (World.block_lt_of_cell? w _ hw288_3)).trans hw288_3),((HB.out.cell (World.block_lt_of_cell? w _ hw288_4)).trans hw288_4),((HB.out.cell (World.block_lt_of_cell? w _ hw290_0)).trans hw290_0),((HB.out.cell (World.block_lt_of_cell? w _ hw290_1)).trans hw290_1),((HB.out.cell (World.block_lt_of_cell? w _ hw290_2)).trans hw290_2),((HB.out.cell (World.block_lt_of_cell? w _ hw290_3)).trans hw290_3),((HB.out.cell (World.block_lt_of_cell? w _ hw290_4)).trans hw290_4)⟩ (fun hHeld => ?_);refine with_tabW strakeref18_Best.tab9 strakeref18_Best.bits9 (fun HT_ HW_ => ?_)
             generalize wr.drew = w27 at HB hx288_0 hx288_1 hx288_2 hx288_3 hx288_4 hx290_0 hx290_1 hx290_2 hx290_3 hx290_4 hHeld ⊢
             refine pure_ (i := 0) (N := some 39) (v := ?_) (a' := ?_) #[true,false,false,false,false,false,false,false,false,false,false,false,false,false,false,false,false,false,false,false,false,false,false,false,false,false,false] rfl rfl (any_of HT_.out (by kernel_rfl)) (fun _ _ _ h => h) (Or.inl ⟨by rfl,?_⟩) ?_ ?_
             rotate_left
             ·intro w'
              go_simp
              with_reducible rfl
             rotate_left
             ·simp only [Act.put, qa, qb, qc, i64_w, i32_w]
              rfl
             refine pure_ (i := 1) (N := some 40) (v := ?_) (a' := ?_) #[true,true,false,false,false,false,false,false,false,false,false,false,false,false,false,false,false,false,false,false,false,false,false,false,false,false,false] rfl rfl (any_of HT_.out (by kernel_rfl)) (fun _ _ _ h => h) (Or.inl ⟨by rfl,?_⟩) ?_ ?_
             rotate_left
             ·intro w'
              go_simp
              with_reducible rfl
             rotate_left
             ·simp only [Act.put, qa, qb, qc, i64_w, i32_w]
              rfl
             refine pure_ (i := 2) (N := some 41) (v := ?_) (a' := ?_) #[true,true,true,false,false,false,false,false,false,false,false,false,false,false,false,false,false,false,false,false,false,false,false,false,false,false,false] rfl rfl (any_of HT_.out (by kernel_rfl)) (fun _ _ _ h => h) (Or.inl ⟨by rfl,?_⟩) ?_ ?_
             rotate_left
             ·intro w'
              go_simp
              with_reducible rfl
             rotate_left
             ·simp only [Act.put, qa, qb, qc, i64_w, i32_w]
              rfl
             refine pure_ (i := 4) (N := some 43) (v := ?_) (a' := ?_) #[true,true,true,false,true,false,false,false,false,false,false,false,false,false,false,false,false,false,false,false,false,false,false,false,false,false,false] rfl rfl (any_of HT_.out (by kernel_rfl)) (fun _ _ _ h => h) (Or.inl ⟨by rfl,?_⟩) ?_ ?_
             rotate_left
             ·intro w'
              go_simp
              with_reducible rfl
             rotate_left
             ·simp only [Act.put, qa, qb, qc, i64_w, i32_w]
              rfl
             refine take_ (i := 3) (N := some 42) (v := ?_) (a' := ?_) #[true,true,true,true,true,false,false,false,false,false,false,false,false,false,false,false,false,false,false,false,false,false,false,false,false,false,false] rfl rfl (take_ofW HT_.out HW_.out (by kernel_rfl)) (fun _ _ _ h => h) (Or.inl ⟨by rfl,?_⟩) hHeld ?_ ?_
             rotate_left
             ·rintro w' ⟨s0, s1, s2, s3, s4, s5, s6, s7, s8, s9⟩
              go_simp
              with_reducible rfl
             rotate_left
             ·simp only [Act.put, qa, qb, qc, i64_w, i32_w]
              rfl
             refine one_ (i := 5) (N := some 44) #[true,true,true,true,true,true,false,false,false,false,false,false,false,false,false,false,false,false,false,false,false,false,false,false,false,false,false] rfl rfl (one_of HT_.out (by kernel_rfl)) (by decide) (fun K hK => ?_)
             refine goes_ Try.func21 (by kernel_rfl) rfl #[.agg #[.int .i64 ((rd_T27 l0 x9_3).f0),.int .i64 ((rd_T27 l0 x9_3).f1.f0),.int .i64 ((rd_T27 l0 x9_3).f1.f1),.int .i64 ((rd_T27 l0 x9_3).f1.f2),.slice ((rd_T27 l0 x9_3).f2).a ((rd_T27 l0 x9_3).f2).n ((rd_T27 l0 x9_3).f2).c],.int .i64 a1] (by rfl) rfl rfl (by (try simp only [List.map_toArray,List.map_cons,List.map_nil]);first|done|rfl|(simp only [List.length_drop,List.length_take];rfl)) ?_
             with_reducible refine (strakeref18_counts.calls ((rd_T27 l0 x9_3).f0) ((rd_T27 l0 x9_3).f1.f0) ((rd_T27 l0 x9_3).f1.f1) ((rd_T27 l0 x9_3).f1.f2) ((rd_T27 l0 x9_3).f2) a1 true _ A14.out).mono ?_
             rintro e w28 ⟨rfl, hb⟩
             refine ⟨_, rfl, ?_⟩
             have n0_ := Aside0.mk (below_step (by repeat (first|(with_reducible first|exact HB.out|apply below_alloc|apply pw_below_drewN|apply below_drew1)|exact HB.out)) hb)
             clear HB
             have HB := n0_
             clear n0_
             (try clear hb)
             (try clear hb2)
             (try clear hk)
             (try clear hi)
             refine hK.out _ _ ⟨((HB.out.cell (World.block_lt_of_cell? w _ hw288_0)).trans hw288_0),((HB.out.cell (World.block_lt_of_cell? w _ hw288_1)).trans hw288_1),((HB.out.cell (World.block_lt_of_cell? w _ hw288_2)).trans hw288_2),((HB.out.cell (World.block_lt_of_cell? w _ hw288_3)).trans hw288_3),((HB.out.cell (World.block_lt_of_cell? w _ hw288_4)).trans hw288_4),((HB.out.cell (World.block_lt_of_cell? w _ hw290_0)).trans hw290_0),((HB.out.cell (World.block_lt_of_cell? w _ hw290_1)).trans hw290_1),((HB.out.cell (World.block_lt_of_cell? w _ hw290_2)).trans hw290_2),((HB.out.cell (World.block_lt_of_cell? w _ hw290_3)).trans hw290_3),((HB.out.cell (World.block_lt_of_cell? w _ hw290_4)).trans hw290_4)⟩ (fun hHeld => ?_)
             clear hK K
             refine norm_ (a' := ?_) ?_ ?_
             rotate_left
             ·show Act.put _ (some 44) _ = _
              simp only [Act.put, qa, qb, qc, i64_w, i32_w]
              rfl
             refine pure_ (i := 6) (N := some 45) (v := ?_) (a' := ?_) #[true,true,true,true,true,true,true,false,false,false,false,false,false,false,false,false,false,false,false,false,false,false,false,false,false,false,false] rfl rfl (any_of HT_.out (by kernel_rfl)) (fun _ _ _ h => h) (Or.inl ⟨by rfl,?_⟩) ?_ ?_
             rotate_left
             ·intro w'
              go_simp
              with_reducible rfl
             rotate_left
             ·simp only [Act.put, qa, qb, qc, i64_w, i32_w]
              rfl
             refine pure_ (i := 7) (N := some 46) (v := ?_) (a' := ?_) #[true,true,true,true,true,true,true,true,false,false,false,false,false,false,false,false,false,false,false,false,false,false,false,false,false,false,false] rfl rfl (any_of HT_.out (by kernel_rfl)) (fun _ _ _ h => h) (Or.inl ⟨by rfl,?_⟩) ?_ ?_
             rotate_left
             ·intro w'
              go_simp
              with_reducible rfl
             rotate_left
             ·simp only [Act.put, qa, qb, qc, i64_w, i32_w]
              rfl
             refine pure_ (i := 8) (N := some 47) (v := ?_) (a' := ?_) #[true,true,true,true,true,true,true,true,true,false,false,false,false,false,false,false,false,false,false,false,false,false,false,false,false,false,false] rfl rfl (any_of HT_.out (by kernel_rfl)) (fun _ _ _ h => h) (Or.inl ⟨by rfl,?_⟩) ?_ ?_
             rotate_left
             ·intro w'
              go_simp
              with_reducible rfl
             rotate_left
             ·simp only [Act.put, qa, qb, qc, i64_w, i32_w]
              rfl
             refine pure_ (i := 9) (N := some 48) (v := ?_) (a' := ?_) #[true,true,true,true,true,true,true,true,true,true,false,false,false,false,false,false,false,false,false,false,false,false,false,false,false,false,false] rfl rfl (any_of HT_.out (by kernel_rfl)) (fun _ _ _ h => h) (Or.inl ⟨by rfl,?_⟩) ?_ ?_
             rotate_left
             ·intro w'
              go_simp
              with_reducible rfl
             rotate_left
             ·simp only [Act.put, qa, qb, qc, i64_w, i32_w]
              rfl
             refine pure_ (i := 10) (N := some 49) (v := ?_) (a' := ?_) #[true,true,true,true,true,true,true,true,true,true,true,false,false,false,false,false,false,false,false,false,false,false,false,false,false,false,false] rfl rfl (any_of HT_.out (by kernel_rfl)) (fun _ _ _ h => h) (Or.inl ⟨by rfl,?_⟩) ?_ ?_
             rotate_left
             ·intro w'
              go_simp
              with_reducible rfl
             rotate_left
             ·simp only [Act.put, qa, qb, qc, i64_w, i32_w]
              rfl
             refine pure_ (i := 11) (N := some 50) (v := ?_) (a' := ?_) #[true,true,true,true,true,true,true,true,true,true,true,true,false,false,false,false,false,false,false,false,false,false,false,false,false,false,false] rfl rfl (any_of HT_.out (by kernel_rfl)) (fun _ _ _ h => h) (Or.inl ⟨by rfl,?_⟩) ?_ ?_
             rotate_left
             ·intro w'
              go_simp
              with_reducible rfl
             rotate_left
             ·simp only [Act.put, qa, qb, qc, i64_w, i32_w]
              rfl
             refine pure_ (i := 13) (N := some 52) (v := ?_) (a' := ?_) #[true,true,true,true,true,true,true,true,true,true,true,true,false,true,false,false,false,false,false,false,false,false,false,false,false,false,false] rfl rfl (any_of HT_.out (by kernel_rfl)) (fun _ _ _ h => h) (Or.inl ⟨by rfl,?_⟩) ?_ ?_
             rotate_left
             ·intro w'
              go_simp
              with_reducible rfl
             rotate_left
             ·simp only [Act.put, qa, qb, qc, i64_w, i32_w]
              rfl
             refine take_ (i := 12) (N := some 51) (v := ?_) (a' := ?_) #[true,true,true,true,true,true,true,true,true,true,true,true,true,true,false,false,false,false,false,false,false,false,false,false,false,false,false] rfl rfl (take_ofW HT_.out HW_.out (by kernel_rfl)) (fun _ _ _ h => h) (Or.inl ⟨by rfl,?_⟩) hHeld ?_ ?_
             rotate_left
             ·rintro w' ⟨s0, s1, s2, s3, s4, s5, s6, s7, s8, s9⟩
              go_simp
              with_reducible rfl
             rotate_left
             ·simp only [Act.put, qa, qb, qc, i64_w, i32_w]
              rfl
             refine pure_ (i := 14) (N := some 53) (v := ?_) (a' := ?_) #[true,true,true,true,true,true,true,true,true,true,true,true,true,true,true,false,false,false,false,false,false,false,false,false,false,false,false] rfl rfl (any_of HT_.out (by kernel_rfl)) (fun _ _ _ h => h) (Or.inl ⟨by rfl,?_⟩) ?_ ?_
             rotate_left
             ·intro w'
              go_simp
              with_reducible rfl
             rotate_left
             ·simp only [Act.put, qa, qb, qc, i64_w, i32_w]
              rfl
             refine pure_ (i := 15) (N := some 54) (v := ?_) (a' := ?_) #[true,true,true,true,true,true,true,true,true,true,true,true,true,true,true,true,false,false,false,false,false,false,false,false,false,false,false] rfl rfl (any_of HT_.out (by kernel_rfl)) (fun _ _ _ h => h) (Or.inl ⟨by rfl,?_⟩) ?_ ?_
             rotate_left
             ·intro w'
              go_simp
              with_reducible rfl
             rotate_left
             ·simp only [Act.put, qa, qb, qc, i64_w, i32_w]
              rfl
             refine pure_ (i := 16) (N := some 55) (v := ?_) (a' := ?_) #[true,true,true,true,true,true,true,true,true,true,true,true,true,true,true,true,true,false,false,false,false,false,false,false,false,false,false] rfl rfl (any_of HT_.out (by kernel_rfl)) (fun _ _ _ h => h) (Or.inl ⟨by rfl,?_⟩) ?_ ?_
             rotate_left
             ·intro w'
              go_simp
              with_reducible rfl
             rotate_left
             ·simp only [Act.put, qa, qb, qc, i64_w, i32_w]
              rfl
             refine pure_ (i := 17) (N := some 56) (v := undef) (a' := ?_) #[true,true,true,true,true,true,true,true,true,true,true,true,true,true,true,true,true,true,false,false,false,false,false,false,false,false,false] rfl rfl (any_of HT_.out (by kernel_rfl)) (fun _ _ _ h => h) (Or.inr ⟨by rfl,rfl⟩) ?_ ?_
             rotate_left
             ·simp only [Act.put, qa, qb, qc, i64_w, i32_w]
              rfl
             refine pure_ (i := 18) (N := some 57) (v := undef) (a' := ?_) #[true,true,true,true,true,true,true,true,true,true,true,true,true,true,true,true,true,true,true,false,false,false,false,false,false,false,false] rfl rfl (any_of HT_.out (by kernel_rfl)) (fun _ _ _ h => h) (Or.inr ⟨by rfl,rfl⟩) ?_ ?_
             rotate_left
             ·simp only [Act.put, qa, qb, qc, i64_w, i32_w]
              rfl
             refine pure_ (i := 19) (N := some 58) (v := undef) (a' := ?_) #[true,true,true,true,true,true,true,true,true,true,true,true,true,true,true,true,true,true,true,true,false,false,false,false,false,false,false] rfl rfl (any_of HT_.out (by kernel_rfl)) (fun _ _ _ h => h) (Or.inr ⟨by rfl,rfl⟩) ?_ ?_
             rotate_left
             ·simp only [Act.put, qa, qb, qc, i64_w, i32_w]
              rfl
             refine pure_ (i := 20) (N := some 59) (v := undef) (a' := ?_) #[true,true,true,true,true,true,true,true,true,true,true,true,true,true,true,true,true,true,true,true,true,false,false,false,false,false,false] rfl rfl (any_of HT_.out (by kernel_rfl)) (fun _ _ _ h => h) (Or.inr ⟨by rfl,rfl⟩) ?_ ?_
             rotate_left
             ·simp only [Act.put, qa, qb, qc, i64_w, i32_w]
              rfl
             refine pure_ (i := 21) (N := some 60) (v := undef) (a' := ?_) #[true,true,true,true,true,true,true,true,true,true,true,true,true,true,true,true,true,true,true,true,true,true,false,false,false,false,false] rfl rfl (any_of HT_.out (by kernel_rfl)) (fun _ _ _ h => h) (Or.inr ⟨by rfl,rfl⟩) ?_ ?_
             rotate_left
             ·simp only [Act.put, qa, qb, qc, i64_w, i32_w]
              rfl
             refine pure_ (i := 22) (N := some 61) (v := undef) (a' := ?_) #[true,true,true,true,true,true,true,true,true,true,true,true,true,true,true,true,true,true,true,true,true,true,true,false,false,false,false] rfl rfl (any_of HT_.out (by kernel_rfl)) (fun _ _ _ h => h) (Or.inr ⟨by rfl,rfl⟩) ?_ ?_
             rotate_left
             ·simp only [Act.put, qa, qb, qc, i64_w, i32_w]
              rfl
             refine pure_ (i := 23) (N := some 62) (v := undef) (a' := ?_) #[true,true,true,true,true,true,true,true,true,true,true,true,true,true,true,true,true,true,true,true,true,true,true,true,false,false,false] rfl rfl (any_of HT_.out (by kernel_rfl)) (fun _ _ _ h => h) (Or.inr ⟨by rfl,rfl⟩) ?_ ?_
             rotate_left
             ·simp only [Act.put, qa, qb, qc, i64_w, i32_w]
              rfl
             refine pure_ (i := 24) (N := some 63) (v := undef) (a' := ?_) #[true,true,true,true,true,true,true,true,true,true,true,true,true,true,true,true,true,true,true,true,true,true,true,true,true,false,false] rfl rfl (any_of HT_.out (by kernel_rfl)) (fun _ _ _ h => h) (Or.inr ⟨by rfl,rfl⟩) ?_ ?_
             rotate_left
             ·simp only [Act.put, qa, qb, qc, i64_w, i32_w]
              rfl
             refine pure_ (i := 25) (N := some 64) (v := undef) (a' := ?_) #[true,true,true,true,true,true,true,true,true,true,true,true,true,true,true,true,true,true,true,true,true,true,true,true,true,true,false] rfl rfl (any_of HT_.out (by kernel_rfl)) (fun _ _ _ h => h) (Or.inr ⟨by rfl,rfl⟩) ?_ ?_
             rotate_left
             ·simp only [Act.put, qa, qb, qc, i64_w, i32_w]
              rfl
             refine pure_ (i := 26) (N := some 65) (v := ?_) (a' := ?_) #[true,true,true,true,true,true,true,true,true,true,true,true,true,true,true,true,true,true,true,true,true,true,true,true,true,true,true] rfl rfl (any_of HT_.out (by kernel_rfl)) (fun _ _ _ h => h) (Or.inl ⟨by rfl,?_⟩) ?_ ?_
             rotate_left
             ·intro w'
              go_simp
              with_reducible rfl
             rotate_left
             ·simp only [Act.put, qa, qb, qc, i64_w, i32_w]
              rfl
             refine done_ (done_of HT_.out (by kernel_rfl)) ?_
             try go_wp2
             go_roundg k3
             case measure => have := HK1.out; have := HJ4.out; have := HK3.out; omega
             case rel => exact ⟨(x8_3),(wrap64 (x9_3 + 1)),(by first|rfl|(simp;done)|(simp [*];done)),(by first|rfl|(simp;done)|(simp [*];done)),H',⟨by have := HK1.out;have := HJ4.out;have := HK3.out;omega⟩,⟨by repeat (first|(with_reducible first|exact HB.out|apply below_alloc|apply pw_below_drewN|apply below_drew1)|exact HB.out)⟩⟩
           ·replace c15 := Bool.eq_false_iff.mpr c15
            subst c15
            have H1 : (strakeref18_Best.l1 k3 l0 a1 a2 x7_1 x8_3 (wrap64 (x9_3 + 1))) = some r := by rw [if_neg (show ¬ (false = true) by decide)] at H;exact H
            clear H
            have H := H1
            clear H1
            have H' := Aside0.mk H
            clear H
            try go_wp2
            (try (rw [drewN_self wr];generalize hq_ : World.drewN wr _ = wr;have n0_ : Aside0 (Below w.heap.size w wr) := ⟨by rw [← hq_];exact (by repeat (first|(with_reducible first|exact HB.out|apply below_alloc|apply pw_below_drewN|apply below_drew1)|exact HB.out))⟩;clear HB hq_;have HB := n0_;clear n0_))
            have n0_ := Aside0.mk (below_drew1 HB.out)
            clear HB
            have HB := n0_
            clear n0_
            have p288 : 0 ≤ (x9_3 : Int) := of_decide_eq_true (by first | (with_reducible assumption) | assumption)
            have q288 : x9_3 < (l0.length : Int) := of_decide_eq_true (by first|(with_reducible assumption)|assumption)
            obtain ⟨ad288, e288, hx288_0, hx288_1, hx288_2, hx288_3, hx288_4⟩ := at_T27 HR0.out x9_3 p288 q288
            have hw288_4 := hx288_4
            have hw288_3 := hx288_3
            have hw288_2 := hx288_2
            have hw288_1 := hx288_1
            have hw288_0 := hx288_0
            cases e288
            replace hx288_0 := (HB.out.cell (World.block_lt_of_cell? w _ hx288_0)).trans hx288_0
            replace hx288_1 := (HB.out.cell (World.block_lt_of_cell? w _ hx288_1)).trans hx288_1
            replace hx288_2 := (HB.out.cell (World.block_lt_of_cell? w _ hx288_2)).trans hx288_2
            replace hx288_3 := (HB.out.cell (World.block_lt_of_cell? w _ hx288_3)).trans hx288_3
            replace hx288_4 := (HB.out.cell (World.block_lt_of_cell? w _ hx288_4)).trans hx288_4
            replace p288 := eq_true p288
            replace q288 := eq_true q288
            refine start_ (n := 27) (S := fun w' => w'.cell? (ad288.add ((x9_3).toNat * 5)) = some (.int .i64 ((rd_T27 l0 x9_3).f0)) ∧ w'.cell? ⟨(ad288.add ((x9_3).toNat * 5)).block,(ad288.add ((x9_3).toNat * 5)).off + 1,none⟩ = some (.int .i64 ((rd_T27 l0 x9_3).f1.f0)) ∧ w'.cell? ⟨(ad288.add ((x9_3).toNat * 5)).block,(ad288.add ((x9_3).toNat * 5)).off + 2,none⟩ = some (.int .i64 ((rd_T27 l0 x9_3).f1.f1)) ∧ w'.cell? ⟨(ad288.add ((x9_3).toNat * 5)).block,(ad288.add ((x9_3).toNat * 5)).off + 3,none⟩ = some (.int .i64 ((rd_T27 l0 x9_3).f1.f2)) ∧ w'.cell? ⟨(ad288.add ((x9_3).toNat * 5)).block,(ad288.add ((x9_3).toNat * 5)).off + 4,none⟩ = some (.slice ((rd_T27 l0 x9_3).f2).a ((rd_T27 l0 x9_3).f2).n ((rd_T27 l0 x9_3).f2).c)) (ds := []) #[false,false,false,false,false,false,false,false,false,false,false,false,false,false,false,false,false,false,false,false,false,false,false,false,false,false,false] (by kernel_rfl) rfl rfl ⟨((HB.out.cell (World.block_lt_of_cell? w _ hw288_0)).trans hw288_0),((HB.out.cell (World.block_lt_of_cell? w _ hw288_1)).trans hw288_1),((HB.out.cell (World.block_lt_of_cell? w _ hw288_2)).trans hw288_2),((HB.out.cell (World.block_lt_of_cell? w _ hw288_3)).trans hw288_3),((HB.out.cell (World.block_lt_of_cell? w _ hw288_4)).trans hw288_4)⟩ (fun hHeld => ?_);refine with_tabW strakeref18_Best.tab9 strakeref18_Best.bits9 (fun HT_ HW_ => ?_)
            generalize wr.drew = w29 at HB hx288_0 hx288_1 hx288_2 hx288_3 hx288_4 hHeld ⊢
            refine pure_ (i := 0) (N := some 39) (v := ?_) (a' := ?_) #[true,false,false,false,false,false,false,false,false,false,false,false,false,false,false,false,false,false,false,false,false,false,false,false,false,false,false] rfl rfl (any_of HT_.out (by kernel_rfl)) (fun _ _ _ h => h) (Or.inl ⟨by rfl,?_⟩) ?_ ?_
            rotate_left
            ·intro w'
             go_simp
             with_reducible rfl
            rotate_left
            ·simp only [Act.put, qa, qb, qc, i64_w, i32_w]
             rfl
            refine pure_ (i := 1) (N := some 40) (v := ?_) (a' := ?_) #[true,true,false,false,false,false,false,false,false,false,false,false,false,false,false,false,false,false,false,false,false,false,false,false,false,false,false] rfl rfl (any_of HT_.out (by kernel_rfl)) (fun _ _ _ h => h) (Or.inl ⟨by rfl,?_⟩) ?_ ?_
            rotate_left
            ·intro w'
             go_simp
             with_reducible rfl
            rotate_left
            ·simp only [Act.put, qa, qb, qc, i64_w, i32_w]
             rfl
            refine pure_ (i := 2) (N := some 41) (v := ?_) (a' := ?_) #[true,true,true,false,false,false,false,false,false,false,false,false,false,false,false,false,false,false,false,false,false,false,false,false,false,false,false] rfl rfl (any_of HT_.out (by kernel_rfl)) (fun _ _ _ h => h) (Or.inl ⟨by rfl,?_⟩) ?_ ?_
            rotate_left
            ·intro w'
             go_simp
             with_reducible rfl
            rotate_left
            ·simp only [Act.put, qa, qb, qc, i64_w, i32_w]
             rfl
            refine pure_ (i := 4) (N := some 43) (v := ?_) (a' := ?_) #[true,true,true,false,true,false,false,false,false,false,false,false,false,false,false,false,false,false,false,false,false,false,false,false,false,false,false] rfl rfl (any_of HT_.out (by kernel_rfl)) (fun _ _ _ h => h) (Or.inl ⟨by rfl,?_⟩) ?_ ?_
            rotate_left
            ·intro w'
             go_simp
             with_reducible rfl
            rotate_left
            ·simp only [Act.put, qa, qb, qc, i64_w, i32_w]
             rfl
            refine take_ (i := 3) (N := some 42) (v := ?_) (a' := ?_) #[true,true,true,true,true,false,false,false,false,false,false,false,false,false,false,false,false,false,false,false,false,false,false,false,false,false,false] rfl rfl (take_ofW HT_.out HW_.out (by kernel_rfl)) (fun _ _ _ h => h) (Or.inl ⟨by rfl,?_⟩) hHeld ?_ ?_
            rotate_left
            ·rintro w' ⟨s0, s1, s2, s3, s4⟩
             go_simp
             with_reducible rfl
            rotate_left
            ·simp only [Act.put, qa, qb, qc, i64_w, i32_w]
             rfl
            refine one_ (i := 5) (N := some 44) #[true,true,true,true,true,true,false,false,false,false,false,false,false,false,false,false,false,false,false,false,false,false,false,false,false,false,false] rfl rfl (one_of HT_.out (by kernel_rfl)) (by decide) (fun K hK => ?_)
            refine goes_ Try.func21 (by kernel_rfl) rfl #[.agg #[.int .i64 ((rd_T27 l0 x9_3).f0),.int .i64 ((rd_T27 l0 x9_3).f1.f0),.int .i64 ((rd_T27 l0 x9_3).f1.f1),.int .i64 ((rd_T27 l0 x9_3).f1.f2),.slice ((rd_T27 l0 x9_3).f2).a ((rd_T27 l0 x9_3).f2).n ((rd_T27 l0 x9_3).f2).c],.int .i64 a1] (by rfl) rfl rfl (by (try simp only [List.map_toArray,List.map_cons,List.map_nil]);first|done|rfl|(simp only [List.length_drop,List.length_take];rfl)) ?_
            with_reducible refine (strakeref18_counts.calls ((rd_T27 l0 x9_3).f0) ((rd_T27 l0 x9_3).f1.f0) ((rd_T27 l0 x9_3).f1.f1) ((rd_T27 l0 x9_3).f1.f2) ((rd_T27 l0 x9_3).f2) a1 false _ A14.out).mono ?_
            rintro e w30 ⟨rfl, hb⟩
            refine ⟨_, rfl, ?_⟩
            have n0_ := Aside0.mk (below_step (by repeat (first|(with_reducible first|exact HB.out|apply below_alloc|apply pw_below_drewN|apply below_drew1)|exact HB.out)) hb)
            clear HB
            have HB := n0_
            clear n0_
            (try clear hb)
            (try clear hb2)
            (try clear hk)
            (try clear hi)
            refine hK.out _ _ ⟨((HB.out.cell (World.block_lt_of_cell? w _ hw288_0)).trans hw288_0),((HB.out.cell (World.block_lt_of_cell? w _ hw288_1)).trans hw288_1),((HB.out.cell (World.block_lt_of_cell? w _ hw288_2)).trans hw288_2),((HB.out.cell (World.block_lt_of_cell? w _ hw288_3)).trans hw288_3),((HB.out.cell (World.block_lt_of_cell? w _ hw288_4)).trans hw288_4)⟩ (fun hHeld => ?_)
            clear hK K
            refine norm_ (a' := ?_) ?_ ?_
            rotate_left
            ·show Act.put _ (some 44) _ = _
             simp only [Act.put, qa, qb, qc, i64_w, i32_w]
             rfl
            refine pure_ (i := 6) (N := some 45) (v := ?_) (a' := ?_) #[true,true,true,true,true,true,true,false,false,false,false,false,false,false,false,false,false,false,false,false,false,false,false,false,false,false,false] rfl rfl (any_of HT_.out (by kernel_rfl)) (fun _ _ _ h => h) (Or.inl ⟨by rfl,?_⟩) ?_ ?_
            rotate_left
            ·intro w'
             go_simp
             with_reducible rfl
            rotate_left
            ·simp only [Act.put, qa, qb, qc, i64_w, i32_w]
             rfl
            refine pure_ (i := 7) (N := some 46) (v := undef) (a' := ?_) #[true,true,true,true,true,true,true,true,false,false,false,false,false,false,false,false,false,false,false,false,false,false,false,false,false,false,false] rfl rfl (any_of HT_.out (by kernel_rfl)) (fun _ _ _ h => h) (Or.inr ⟨by rfl,rfl⟩) ?_ ?_
            rotate_left
            ·simp only [Act.put, qa, qb, qc, i64_w, i32_w]
             rfl
            refine pure_ (i := 8) (N := some 47) (v := undef) (a' := ?_) #[true,true,true,true,true,true,true,true,true,false,false,false,false,false,false,false,false,false,false,false,false,false,false,false,false,false,false] rfl rfl (any_of HT_.out (by kernel_rfl)) (fun _ _ _ h => h) (Or.inr ⟨by rfl,rfl⟩) ?_ ?_
            rotate_left
            ·simp only [Act.put, qa, qb, qc, i64_w, i32_w]
             rfl
            refine pure_ (i := 9) (N := some 48) (v := undef) (a' := ?_) #[true,true,true,true,true,true,true,true,true,true,false,false,false,false,false,false,false,false,false,false,false,false,false,false,false,false,false] rfl rfl (any_of HT_.out (by kernel_rfl)) (fun _ _ _ h => h) (Or.inr ⟨by rfl,rfl⟩) ?_ ?_
            rotate_left
            ·simp only [Act.put, qa, qb, qc, i64_w, i32_w]
             rfl
            refine pure_ (i := 10) (N := some 49) (v := undef) (a' := ?_) #[true,true,true,true,true,true,true,true,true,true,true,false,false,false,false,false,false,false,false,false,false,false,false,false,false,false,false] rfl rfl (any_of HT_.out (by kernel_rfl)) (fun _ _ _ h => h) (Or.inr ⟨by rfl,rfl⟩) ?_ ?_
            rotate_left
            ·simp only [Act.put, qa, qb, qc, i64_w, i32_w]
             rfl
            refine pure_ (i := 11) (N := some 50) (v := undef) (a' := ?_) #[true,true,true,true,true,true,true,true,true,true,true,true,false,false,false,false,false,false,false,false,false,false,false,false,false,false,false] rfl rfl (any_of HT_.out (by kernel_rfl)) (fun _ _ _ h => h) (Or.inr ⟨by rfl,rfl⟩) ?_ ?_
            rotate_left
            ·simp only [Act.put, qa, qb, qc, i64_w, i32_w]
             rfl
            refine pure_ (i := 12) (N := some 51) (v := undef) (a' := ?_) #[true,true,true,true,true,true,true,true,true,true,true,true,true,false,false,false,false,false,false,false,false,false,false,false,false,false,false] rfl rfl (any_of HT_.out (by kernel_rfl)) (fun _ _ _ h => h) (Or.inr ⟨by rfl,rfl⟩) ?_ ?_
            rotate_left
            ·simp only [Act.put, qa, qb, qc, i64_w, i32_w]
             rfl
            refine pure_ (i := 13) (N := some 52) (v := undef) (a' := ?_) #[true,true,true,true,true,true,true,true,true,true,true,true,true,true,false,false,false,false,false,false,false,false,false,false,false,false,false] rfl rfl (any_of HT_.out (by kernel_rfl)) (fun _ _ _ h => h) (Or.inr ⟨by rfl,rfl⟩) ?_ ?_
            rotate_left
            ·simp only [Act.put, qa, qb, qc, i64_w, i32_w]
             rfl
            refine pure_ (i := 14) (N := some 53) (v := undef) (a' := ?_) #[true,true,true,true,true,true,true,true,true,true,true,true,true,true,true,false,false,false,false,false,false,false,false,false,false,false,false] rfl rfl (any_of HT_.out (by kernel_rfl)) (fun _ _ _ h => h) (Or.inr ⟨by rfl,rfl⟩) ?_ ?_
            rotate_left
            ·simp only [Act.put, qa, qb, qc, i64_w, i32_w]
             rfl
            refine pure_ (i := 15) (N := some 54) (v := ?_) (a' := ?_) #[true,true,true,true,true,true,true,true,true,true,true,true,true,true,true,true,false,false,false,false,false,false,false,false,false,false,false] rfl rfl (any_of HT_.out (by kernel_rfl)) (fun _ _ _ h => h) (Or.inl ⟨by rfl,?_⟩) ?_ ?_
            rotate_left
            ·intro w'
             go_simp
             with_reducible rfl
            rotate_left
            ·simp only [Act.put, qa, qb, qc, i64_w, i32_w]
             rfl
            refine pure_ (i := 16) (N := some 55) (v := ?_) (a' := ?_) #[true,true,true,true,true,true,true,true,true,true,true,true,true,true,true,true,true,false,false,false,false,false,false,false,false,false,false] rfl rfl (any_of HT_.out (by kernel_rfl)) (fun _ _ _ h => h) (Or.inl ⟨by rfl,?_⟩) ?_ ?_
            rotate_left
            ·intro w'
             go_simp
             with_reducible rfl
            rotate_left
            ·simp only [Act.put, qa, qb, qc, i64_w, i32_w]
             rfl
            refine pure_ (i := 17) (N := some 56) (v := undef) (a' := ?_) #[true,true,true,true,true,true,true,true,true,true,true,true,true,true,true,true,true,true,false,false,false,false,false,false,false,false,false] rfl rfl (any_of HT_.out (by kernel_rfl)) (fun _ _ _ h => h) (Or.inr ⟨by rfl,rfl⟩) ?_ ?_
            rotate_left
            ·simp only [Act.put, qa, qb, qc, i64_w, i32_w]
             rfl
            refine pure_ (i := 18) (N := some 57) (v := undef) (a' := ?_) #[true,true,true,true,true,true,true,true,true,true,true,true,true,true,true,true,true,true,true,false,false,false,false,false,false,false,false] rfl rfl (any_of HT_.out (by kernel_rfl)) (fun _ _ _ h => h) (Or.inr ⟨by rfl,rfl⟩) ?_ ?_
            rotate_left
            ·simp only [Act.put, qa, qb, qc, i64_w, i32_w]
             rfl
            refine pure_ (i := 19) (N := some 58) (v := undef) (a' := ?_) #[true,true,true,true,true,true,true,true,true,true,true,true,true,true,true,true,true,true,true,true,false,false,false,false,false,false,false] rfl rfl (any_of HT_.out (by kernel_rfl)) (fun _ _ _ h => h) (Or.inr ⟨by rfl,rfl⟩) ?_ ?_
            rotate_left
            ·simp only [Act.put, qa, qb, qc, i64_w, i32_w]
             rfl
            refine pure_ (i := 20) (N := some 59) (v := undef) (a' := ?_) #[true,true,true,true,true,true,true,true,true,true,true,true,true,true,true,true,true,true,true,true,true,false,false,false,false,false,false] rfl rfl (any_of HT_.out (by kernel_rfl)) (fun _ _ _ h => h) (Or.inr ⟨by rfl,rfl⟩) ?_ ?_
            rotate_left
            ·simp only [Act.put, qa, qb, qc, i64_w, i32_w]
             rfl
            refine pure_ (i := 21) (N := some 60) (v := undef) (a' := ?_) #[true,true,true,true,true,true,true,true,true,true,true,true,true,true,true,true,true,true,true,true,true,true,false,false,false,false,false] rfl rfl (any_of HT_.out (by kernel_rfl)) (fun _ _ _ h => h) (Or.inr ⟨by rfl,rfl⟩) ?_ ?_
            rotate_left
            ·simp only [Act.put, qa, qb, qc, i64_w, i32_w]
             rfl
            refine pure_ (i := 22) (N := some 61) (v := undef) (a' := ?_) #[true,true,true,true,true,true,true,true,true,true,true,true,true,true,true,true,true,true,true,true,true,true,true,false,false,false,false] rfl rfl (any_of HT_.out (by kernel_rfl)) (fun _ _ _ h => h) (Or.inr ⟨by rfl,rfl⟩) ?_ ?_
            rotate_left
            ·simp only [Act.put, qa, qb, qc, i64_w, i32_w]
             rfl
            refine pure_ (i := 23) (N := some 62) (v := undef) (a' := ?_) #[true,true,true,true,true,true,true,true,true,true,true,true,true,true,true,true,true,true,true,true,true,true,true,true,false,false,false] rfl rfl (any_of HT_.out (by kernel_rfl)) (fun _ _ _ h => h) (Or.inr ⟨by rfl,rfl⟩) ?_ ?_
            rotate_left
            ·simp only [Act.put, qa, qb, qc, i64_w, i32_w]
             rfl
            refine pure_ (i := 24) (N := some 63) (v := undef) (a' := ?_) #[true,true,true,true,true,true,true,true,true,true,true,true,true,true,true,true,true,true,true,true,true,true,true,true,true,false,false] rfl rfl (any_of HT_.out (by kernel_rfl)) (fun _ _ _ h => h) (Or.inr ⟨by rfl,rfl⟩) ?_ ?_
            rotate_left
            ·simp only [Act.put, qa, qb, qc, i64_w, i32_w]
             rfl
            refine pure_ (i := 25) (N := some 64) (v := undef) (a' := ?_) #[true,true,true,true,true,true,true,true,true,true,true,true,true,true,true,true,true,true,true,true,true,true,true,true,true,true,false] rfl rfl (any_of HT_.out (by kernel_rfl)) (fun _ _ _ h => h) (Or.inr ⟨by rfl,rfl⟩) ?_ ?_
            rotate_left
            ·simp only [Act.put, qa, qb, qc, i64_w, i32_w]
             rfl
            refine pure_ (i := 26) (N := some 65) (v := ?_) (a' := ?_) #[true,true,true,true,true,true,true,true,true,true,true,true,true,true,true,true,true,true,true,true,true,true,true,true,true,true,true] rfl rfl (any_of HT_.out (by kernel_rfl)) (fun _ _ _ h => h) (Or.inl ⟨by rfl,?_⟩) ?_ ?_
            rotate_left
            ·intro w'
             go_simp
             with_reducible rfl
            rotate_left
            ·simp only [Act.put, qa, qb, qc, i64_w, i32_w]
             rfl
            refine done_ (done_of HT_.out (by kernel_rfl)) ?_
            try go_wp2
            go_roundg k3
            case measure => have := HK1.out; have := HJ4.out; have := HK3.out; omega
            case rel => exact ⟨(x8_3),(wrap64 (x9_3 + 1)),(by first|rfl|(simp;done)|(simp [*];done)),(by first|rfl|(simp;done)|(simp [*];done)),H',⟨by have := HK1.out;have := HJ4.out;have := HK3.out;omega⟩,⟨by repeat (first|(with_reducible first|exact HB.out|apply below_alloc|apply pw_below_drewN|apply below_drew1)|exact HB.out)⟩⟩
          ·rw [if_neg c13] at H
           exact absurd H (by simp)
         ·rw [if_neg c12] at H
          have c12b0 : decide (x9_3 < (l0.length : Int)) = false := decide_eq_false c12
          clear c12
          by_cases c31 : x8_3 = true
          ·subst c31
           have H1 : (some x7_1) = some r := by rw [if_pos rfl] at H; exact H
           clear H
           have H := H1
           clear H1
           obtain rfl := Option.some.inj H
           go_wp2
           go_ret
           exact ⟨by first|rfl|(simp [errW_none,errW_some] <;> rfl)|(simp [*,errW_none,errW_some] <;> rfl),by repeat (first|(with_reducible first|exact HB.out|apply below_alloc|apply pw_below_drewN|apply below_drew1)|exact HB.out)⟩
          ·replace c31 := Bool.eq_false_iff.mpr c31
           subst c31
           have H1 : (strakeref18_Best.l0 k3 l0 a1 a2 (wrap64 (x7_1 + 1))) = some r := by rw [if_neg (show ¬ (false = true) by decide)] at H;exact H
           clear H
           have H := H1
           clear H1
           have H' := Aside0.mk H
           clear H
           go_wp2
           go_roundg k3
           case measure => have := HK1.out; have := HJ4.out; have := HK3.out; omega
           case rel => exact ⟨(wrap64 (x7_1 + 1)),(by first|rfl|(simp;done)|(simp [*];done)),H',⟨by have := HK1.out;have := HJ4.out;have := HK3.out;omega⟩,⟨by repeat (first|(with_reducible first|exact HB.out|apply below_alloc|apply pw_below_drewN|apply below_drew1)|exact HB.out)⟩⟩
   ·rw [if_neg c4] at H
    have c4b0 : decide (x7_1 < (l0.length : Int)) = false := decide_eq_false c4
    clear c4
    obtain rfl := Option.some.inj H
    go_wp2
    go_ret
    exact ⟨by first|rfl|(simp [errW_none,errW_some] <;> rfl)|(simp [*,errW_none,errW_some] <;> rfl),by repeat (first|(with_reducible first|exact HB.out|apply below_alloc|apply pw_below_drewN|apply below_drew1)|exact HB.out)⟩


/-! ### strakeref18_put: function 24 -/
mutual
def strakeref18_put.l0 : Nat → List Int → Int → List Int → Bool → Int → Option (List Int)
 | 0, _, _, _, _, _ => none
 | k + 1,x0,x1,x5,x6,x7 => if x7 < (x0.length : Int) then (if x6 = true then (strakeref18_put.j1 k x0 x1 x5 x6 x7 false) else (if 0 ≤ x7 then (strakeref18_put.j1 k x0 x1 x5 x6 x7 (decide ((rd x0 x7) ≥ x1))) else (none))) else (if x6 = true then (some x5) else (if x5.length < 17592186044416 then (some (x5 ++ [x1])) else (none)))
def strakeref18_put.j1 : Nat → List Int → Int → List Int → Bool → Int → Bool → Option (List Int)
 | 0, _, _, _, _, _, _ => none
 | k + 1,x0,x1,x5,x6,x7,x23 => if x23 = true then (if x5.length < 17592186044416 then ((some (x5 ++ [x1] : List Int)).bind fun y298 => (if 0 ≤ x7 then (if x7 < (x0.length : Int) then (if (rd x0 x7) = x1 then (strakeref18_put.l0 k x0 x1 y298 true (wrap64 (x7 + 1))) else (if y298.length < 17592186044416 then (strakeref18_put.l0 k x0 x1 (y298 ++ [rd x0 x7]) true (wrap64 (x7 + 1))) else (none))) else (none)) else (none))) else (none)) else (if 0 ≤ x7 then (if x7 < (x0.length : Int) then (if (rd x0 x7) = x1 then (strakeref18_put.l0 k x0 x1 x5 x6 (wrap64 (x7 + 1))) else (if x5.length < 17592186044416 then (strakeref18_put.l0 k x0 x1 (x5 ++ [rd x0 x7]) x6 (wrap64 (x7 + 1))) else (none))) else (none)) else (none))
end
def strakeref18_put.f (k : Nat) (l0 : List Int) (a1 : Int) : Option (List Int) := strakeref18_put.l0 k l0 a1 ([] : List Int) false 0
theorem strakeref18_put.mono_l : ∀ k,(∀ y0 y1 y2 y3 y4,LeO (strakeref18_put.l0 k y0 y1 y2 y3 y4) (strakeref18_put.l0 (k + 1) y0 y1 y2 y3 y4)) ∧ (∀ y0 y1 y2 y3 y4 y5,LeO (strakeref18_put.j1 k y0 y1 y2 y3 y4 y5) (strakeref18_put.j1 (k + 1) y0 y1 y2 y3 y4 y5))
 | 0 => ⟨fun _ _ _ _ _ r h => by simp [strakeref18_put.l0] at h,fun _ _ _ _ _ _ r h => by simp [strakeref18_put.j1] at h⟩
 | k + 1 => by
  obtain ⟨ih0, ih1⟩ := strakeref18_put.mono_l k
  refine ⟨?_, ?_⟩
  ·intro y0 y1 y2 y3 y4
   unfold strakeref18_put.l0
   repeat' first
   | (with_reducible exact ih0 _ _ _ _ _)
   | (with_reducible exact ih1 _ _ _ _ _ _)
   | (with_reducible exact LeO.refl _)
   | (with_reducible exact LeO.none _)
   | (with_reducible refine LeO.ite ?_ ?_)
   | (with_reducible refine LeO.bind ?_ (fun _ => ?_))
   | exact ih0 _ _ _ _ _
   | exact ih1 _ _ _ _ _ _
   | exact LeO.none _
   | refine LeO.ite ?_ ?_
   | refine LeO.bind ?_ (fun _ => ?_)
  ·intro y0 y1 y2 y3 y4 y5
   unfold strakeref18_put.j1
   repeat' first
   | (with_reducible exact ih0 _ _ _ _ _)
   | (with_reducible exact ih1 _ _ _ _ _ _)
   | (with_reducible exact LeO.refl _)
   | (with_reducible exact LeO.none _)
   | (with_reducible refine LeO.ite ?_ ?_)
   | (with_reducible refine LeO.bind ?_ (fun _ => ?_))
   | exact ih0 _ _ _ _ _
   | exact ih1 _ _ _ _ _ _
   | exact LeO.none _
   | refine LeO.ite ?_ ?_
   | refine LeO.bind ?_ (fun _ => ?_)
theorem strakeref18_put.mono : ∀ a0 a1 k, LeO (strakeref18_put.f k a0 a1) (strakeref18_put.f (k + 1) a0 a1) := by
 intro a0 a1 k
 obtain ⟨ih0, ih1⟩ := strakeref18_put.mono_l k
 unfold strakeref18_put.f
 repeat' first
   | (with_reducible exact ih0 _ _ _ _ _)
   | (with_reducible exact ih1 _ _ _ _ _ _)
   | (with_reducible exact LeO.refl _)
   | (with_reducible exact LeO.none _)
   | (with_reducible refine LeO.ite ?_ ?_)
   | (with_reducible refine LeO.bind ?_ (fun _ => ?_))
   | exact ih0 _ _ _ _ _
   | exact ih1 _ _ _ _ _ _
   | exact LeO.none _
   | refine LeO.ite ?_ ?_
   | refine LeO.bind ?_ (fun _ => ?_)
set_option maxHeartbeats 8000000 in
set_option maxRecDepth 100000 in
theorem strakeref18_put.calls (k : Nat) (A0 : Option Addr) (c0 : Nat) (l0 : List Int) (a1 : Int) (r : List Int) (w : World) (hr0 : Kd.C (Kd.int .i64) w A0 l0.length l0) (hc0 : l0.length ≤ c0) (h : strakeref18_put.f k l0 a1 = some r) :
  Calls Try.prog 24 #[.slice A0 l0.length c0,.int .i64 a1] w fun e w' => ∃ v0_ : Value,e = .returned (v0_) ∧ Kd.R (Kd.int .i64) 3 w' w.heap.size (fun _ => True) v0_ r ∧ Below w.heap.size w w' := by
 have HR0 := Aside0.mk hr0
 have HC0 := Aside0.mk hc0
 clear hr0 hc0
 have HB := Aside0.mk (Below.refl w.heap.size w)
 have H : (strakeref18_put.l0 k l0 a1 ([] : List Int) false 0) = some r := h
 clear h
 have H' := Aside0.mk H
 clear H
 go_enter Try.func24, Try.ntmps24
 go_wp2
 go_loopg [5,6,7] k (fun kq v5 v6 v7 w' => ∃ (x5_1 : List Int) (x6_1 : Bool) (x7_1 : Int),v6 = .bool x6_1 ∧ v7 = .int .i64 x7_1 ∧ Aside0 (strakeref18_put.l0 kq l0 a1 x5_1 x6_1 x7_1 = some r) ∧ Aside0 (kq ≤ k) ∧ Aside0 (Kd.R (Kd.int .i64) 3 w' w.heap.size (fun _ => True) v5 x5_1) ∧ Aside0 (Below w.heap.size w w'))
 case atStart => exact ⟨(([] : List Int)),(false),(0),(by first|rfl|(simp;done)|(simp [*];done)),(by first|rfl|(simp;done)|(simp [*];done)),H',⟨Nat.le_refl _⟩,⟨by first|exact Kd.R_nil _ _ _ _ _|exact Kd.N_nil _ _ _ _ _|exact Kd.V_nil _ _ _ _ _|exact Kd.Q_nil _ _ _ _ _|exact Kd.S_nil _ _ _ _ _⟩,⟨by repeat (first|(with_reducible first|exact HB.out|apply below_alloc|apply pw_below_drewN|apply below_drew1)|exact HB.out)⟩⟩
 case round =>
  clear H'
  try clear c2
  try clear p2
  obtain ⟨x5_1, x6_1, x7_1, rfl, rfl, HA, HK1, HO_5, HB⟩ := hrel
  cases gk with
  | zero => exact absurd HA.out (by simp [strakeref18_put.l0])
  | succ k1 =>
   have H := HA.out
   clear HA
   simp only [strakeref18_put.l0] at H
   by_cases c3 : x7_1 < (l0.length : Int)
   ·rw [if_pos c3] at H
    have c3b0 : decide (x7_1 < (l0.length : Int)) = true := decide_eq_true c3
    clear c3
    have HC4 := Aside0.mk H
    clear H
    go_upto_region 6 with (fail)
    go_cut [23] (fun v23 wc => ∃ (kq : Nat) (x23_3 : Bool),v23 = .bool x23_3 ∧ Aside0 (strakeref18_put.j1 kq l0 a1 x5_1 x6_1 x7_1 x23_3 = some r) ∧ Aside0 (kq ≤ k1) ∧ Aside0 (Kd.R (Kd.int .i64) 3 wc w.heap.size (fun _ => True) u5 x5_1) ∧ Aside0 (Below w.heap.size w wc))
    case first =>
     have H := HC4.out
     clear HC4
     by_cases c5 : x6_1 = true
     ·subst c5
      have H1 : (strakeref18_put.j1 k1 l0 a1 x5_1 true x7_1 false) = some r := by rw [if_pos rfl] at H; exact H
      clear H
      have H := H1
      clear H1
      have H' := Aside0.mk H
      clear H
      go_wp2
      go_meet
      case rel => exact ⟨_,(false),(by first|rfl|(simp;done)|(simp [*];done)),H',⟨by have := HK1.out;first|omega|exact Nat.le_refl _⟩,⟨by (with_reducible repeat (first|apply Kd.R_alloc|apply Kd.R_drewN|apply Kd.R_drew));exact HO_5.out⟩,⟨by repeat (first|(with_reducible first|exact HB.out|apply below_alloc|apply pw_below_drewN|apply below_drew1)|exact HB.out)⟩⟩
     ·replace c5 := Bool.eq_false_iff.mpr c5
      subst c5
      have H1 : (if 0 ≤ x7_1 then (strakeref18_put.j1 k1 l0 a1 x5_1 false x7_1 (decide ((rd l0 x7_1) ≥ a1))) else (none)) = some r := by rw [if_neg (show ¬ (false = true) by decide)] at H;exact H
      clear H
      have H := H1
      clear H1
      by_cases c6 : 0 ≤ x7_1
      ·rw [if_pos c6] at H
       have c6b0 : decide (0 ≤ x7_1) = true := decide_eq_true c6
       clear c6
       (first | rw [c6b0] | (simp only [i64_w, i32_w]; rw [c6b0]) | skip)
       have H' := Aside0.mk H
       clear H
       have p297 : 0 ≤ (x7_1 : Int) := of_decide_eq_true (by first | (with_reducible assumption) | assumption)
       have q297 : x7_1 < (l0.length : Int) := of_decide_eq_true (by first | (with_reducible assumption) | assumption)
       obtain ⟨ad297, e297, hx297_0⟩ := Kd.at_int HR0.out x7_1 p297 q297
       cases e297
       replace hx297_0 := (HB.out.cell (World.block_lt_of_cell? w _ hx297_0)).trans hx297_0
       replace p297 := eq_true p297
       replace q297 := eq_true q297
       go_wp2
       go_meet
       case rel => exact ⟨_,(decide ((rd l0 x7_1) ≥ a1)),(by first|rfl|(simp;done)|(simp [*];done)),H',⟨by have := HK1.out;first|omega|exact Nat.le_refl _⟩,⟨by (with_reducible repeat (first|apply Kd.R_alloc|apply Kd.R_drewN|apply Kd.R_drew));exact HO_5.out⟩,⟨by repeat (first|(with_reducible first|exact HB.out|apply below_alloc|apply pw_below_drewN|apply below_drew1)|exact HB.out)⟩⟩
      ·rw [if_neg c6] at H
       exact absurd H (by simp)
    case rest =>
     clear HC4
     try clear c2
     try clear p2
     try clear q2
     try clear hx2
     try clear c3
     try clear c3b0
     try clear c5
     try clear c6
     try clear c6b0
     try clear hx297_0
     try clear p2
     try clear p297
     try clear q297
     obtain ⟨kq, x23_3, rfl, HA, HJ3, HO_5, HB⟩ := hcut
     cases kq with
     | zero => exact absurd HA.out (by simp [strakeref18_put.j1])
     | succ kj3 =>
      have H := HA.out
      clear HA
      simp only [strakeref18_put.j1] at H
      by_cases c7 : x23_3 = true
      ·subst c7
       have H1 : (if x5_1.length < 17592186044416 then ((some (x5_1 ++ [a1] : List Int)).bind fun y298 => (if 0 ≤ x7_1 then (if x7_1 < (l0.length : Int) then (if (rd l0 x7_1) = a1 then (strakeref18_put.l0 kj3 l0 a1 y298 true (wrap64 (x7_1 + 1))) else (if y298.length < 17592186044416 then (strakeref18_put.l0 kj3 l0 a1 (y298 ++ [rd l0 x7_1]) true (wrap64 (x7_1 + 1))) else (none))) else (none)) else (none))) else (none)) = some r := by rw [if_pos rfl] at H;exact H
       clear H
       have H := H1
       clear H1
       by_cases c8 : x5_1.length < 17592186044416
       ·rw [if_pos c8] at H
        have LMc8 := Aside0.mk c8
        clear c8
        obtain ⟨y298, hy298⟩ : ∃ y_ : List Int, y_ = (x5_1 ++ [a1]) := ⟨_, rfl⟩
        replace H : (if 0 ≤ x7_1 then (if x7_1 < (l0.length : Int) then (if (rd l0 x7_1) = a1 then (strakeref18_put.l0 kj3 l0 a1 y298 true (wrap64 (x7_1 + 1))) else (if y298.length < 17592186044416 then (strakeref18_put.l0 kj3 l0 a1 (y298 ++ [rd l0 x7_1]) true (wrap64 (x7_1 + 1))) else (none))) else (none)) else (none)) = some r := by first|(rw [hy298];with_reducible exact H)|(have H2_ := (Option.bind_some _ _).symm.trans H;rw [hy298];with_reducible exact H2_)|(have H2_ := (Option.bind_some _ _).symm.trans H;with_reducible exact H2_)|with_reducible exact H|(rw [hy298];exact H)|exact H
        have Ny298 := Aside0.mk hy298
        clear hy298
        by_cases c9 : 0 ≤ x7_1
        ·rw [if_pos c9] at H
         have c9b0 : decide (0 ≤ x7_1) = true := decide_eq_true c9
         clear c9
         by_cases c10 : x7_1 < (l0.length : Int)
         ·rw [if_pos c10] at H
          have c10b0 : decide (x7_1 < (l0.length : Int)) = true := decide_eq_true c10
          clear c10
          by_cases c11 : (rd l0 x7_1) = a1
          ·rw [if_pos c11] at H
           have c11b0 : ((rd l0 x7_1) == a1) = true := beq_iff_eq.mpr c11
           have c11b1 : ((rd l0 x7_1) != a1) = false := bne_eq_false_iff_eq.mpr c11
           clear c11
           have H' := Aside0.mk H
           clear H
           go_wp2_with (first|((with_reducible refine gate_builtin (b := .append) (xs := #[.tmp 24,.tmp 26]) rfl ?_);at_builtin;refine Kd.R_append (Kd.int .i64) (w0 := w) w.heap.size rfl (.tmp 24) (.tmp 26) 36 3 (.int .i64 0) 8 rfl Try.underlying36 info3 rfl (by decide) (by omega) u5 x5_1 a1 [.int .i64 a1] (fun _ => True) (fun _ => False) rfl rfl ?aP (fun _ hk => hk.elim) ?aF ?aO ?aB ?aS ?aL ?_;(case aP => exact rfl);(case aB => exact (by repeat (first|(with_reducible first|exact HB.out|apply below_alloc|apply pw_below_drewN|apply below_drew1)|exact HB.out)));(case aF => exact (fun _ _ => trivial));(case aO => exact (by (with_reducible repeat (first|apply Kd.R_alloc|apply Kd.R_drewN|apply Kd.R_drew));exact HO_5.out));(case aS => exact (below_size (by repeat (first|(with_reducible first|exact HB.out|apply below_alloc|apply pw_below_drewN|apply below_drew1)|exact HB.out))));(case aL => have := LMc8.out;omega);intro v299 w12 ho hb hg hat;rw [← Ny298.out] at ho;have n0_ := Aside0.mk (hb);have n1_ := Aside0.mk (ho);clear HB;clear HO_5;have HB := n0_;have HO300 := n1_;clear n0_ n1_;clear ho hb hg hat;have p301 : 0 ≤ (x7_1 : Int) := of_decide_eq_true (by first|(with_reducible assumption)|assumption);have q301 : x7_1 < (l0.length : Int) := of_decide_eq_true (by first|(with_reducible assumption)|assumption);obtain ⟨ad301,e301,hx301_0⟩ := Kd.at_int HR0.out x7_1 p301 q301;cases e301;replace hx301_0 := (HB.out.cell (World.block_lt_of_cell? w _ hx301_0)).trans hx301_0;replace p301 := eq_true p301;replace q301 := eq_true q301))
           go_roundg kj3
           case measure => have := HK1.out; have := HJ3.out; omega
           case rel => exact ⟨(y298),(true),(wrap64 (x7_1 + 1)),(by first|rfl|(simp;done)|(simp [*];done)),(by first|rfl|(simp;done)|(simp [*];done)),H',⟨by have := HK1.out;have := HJ3.out;omega⟩,⟨by (with_reducible repeat (first|apply Kd.R_alloc|apply Kd.R_drewN|apply Kd.R_drew));exact HO300.out⟩,⟨by repeat (first|(with_reducible first|exact HB.out|apply below_alloc|apply pw_below_drewN|apply below_drew1)|exact HB.out)⟩⟩
          ·rw [if_neg c11] at H
           have c11b0 : ((rd l0 x7_1) == a1) = false := beq_eq_false_iff_ne.mpr c11
           have c11b1 : ((rd l0 x7_1) != a1) = true := bne_iff_ne.mpr c11
           by_cases c13 : y298.length < 17592186044416
           ·rw [if_pos c13] at H
            have LMc13 := Aside0.mk c13
            clear c13
            obtain ⟨y303, hy303⟩ : ∃ y_ : List Int, y_ = (y298 ++ [rd l0 x7_1]) := ⟨_, rfl⟩
            replace H : (strakeref18_put.l0 kj3 l0 a1 y303 true (wrap64 (x7_1 + 1))) = some r := by first|(rw [hy303];with_reducible exact H)|(have H2_ := (Option.bind_some _ _).symm.trans H;rw [hy303];with_reducible exact H2_)|(have H2_ := (Option.bind_some _ _).symm.trans H;with_reducible exact H2_)|with_reducible exact H|(rw [hy303];exact H)|exact H
            have Ny303 := Aside0.mk hy303
            clear hy303
            have H' := Aside0.mk H
            clear H
            go_wp2_with (first|((with_reducible refine gate_builtin (b := .append) (xs := #[.tmp 24,.tmp 26]) rfl ?_);at_builtin;refine Kd.R_append (Kd.int .i64) (w0 := w) w.heap.size rfl (.tmp 24) (.tmp 26) 36 3 (.int .i64 0) 8 rfl Try.underlying36 info3 rfl (by decide) (by omega) u5 x5_1 a1 [.int .i64 a1] (fun _ => True) (fun _ => False) rfl rfl ?aP (fun _ hk => hk.elim) ?aF ?aO ?aB ?aS ?aL ?_;(case aP => exact rfl);(case aB => exact (by repeat (first|(with_reducible first|exact HB.out|apply below_alloc|apply pw_below_drewN|apply below_drew1)|exact HB.out)));(case aF => exact (fun _ _ => trivial));(case aO => exact (by (with_reducible repeat (first|apply Kd.R_alloc|apply Kd.R_drewN|apply Kd.R_drew));exact HO_5.out));(case aS => exact (below_size (by repeat (first|(with_reducible first|exact HB.out|apply below_alloc|apply pw_below_drewN|apply below_drew1)|exact HB.out))));(case aL => have := LMc8.out;omega);intro v299 w14 ho hb hg hat;rw [← Ny298.out] at ho;have n0_ := Aside0.mk (hb);have n1_ := Aside0.mk (ho);clear HB;clear HO_5;have HB := n0_;have HO300 := n1_;clear n0_ n1_;clear ho hb hg hat;have p301 : 0 ≤ (x7_1 : Int) := of_decide_eq_true (by first|(with_reducible assumption)|assumption);have q301 : x7_1 < (l0.length : Int) := of_decide_eq_true (by first|(with_reducible assumption)|assumption);obtain ⟨ad301,e301,hx301_0⟩ := Kd.at_int HR0.out x7_1 p301 q301;cases e301;replace hx301_0 := (HB.out.cell (World.block_lt_of_cell? w _ hx301_0)).trans hx301_0;replace p301 := eq_true p301;replace q301 := eq_true q301;have p302 : 0 ≤ (x7_1 : Int) := of_decide_eq_true (by first|(with_reducible assumption)|assumption);have q302 : x7_1 < (l0.length : Int) := of_decide_eq_true (by first|(with_reducible assumption)|assumption);obtain ⟨ad302,e302,hx302_0⟩ := Kd.at_int HR0.out x7_1 p302 q302;obtain rfl : ad301 = ad302 := (by injection e302);replace hx302_0 := (HB.out.cell (World.block_lt_of_cell? w _ hx302_0)).trans hx302_0;replace p302 := eq_true p302;replace q302 := eq_true q302)|((with_reducible refine gate_builtin (b := .append) (xs := #[.tmp 34,.tmp 39]) rfl ?_);at_builtin;refine Kd.R_append (Kd.int .i64) (w0 := w) w.heap.size rfl (.tmp 34) (.tmp 39) 36 3 (.int .i64 0) 8 rfl Try.underlying36 info3 rfl (by decide) (by omega) v299 y298 (rd l0 x7_1) [.int .i64 (rd l0 x7_1)] (fun _ => True) (fun _ => False) rfl rfl ?aP (fun _ hk => hk.elim) ?aF ?aO ?aB ?aS ?aL ?_;(case aP => exact rfl);(case aB => exact (by repeat (first|(with_reducible first|exact HB.out|apply below_alloc|apply pw_below_drewN|apply below_drew1)|exact HB.out)));(case aF => exact (fun _ _ => trivial));(case aO => exact (by (with_reducible repeat (first|apply Kd.R_alloc|apply Kd.R_drewN|apply Kd.R_drew));exact HO300.out));(case aS => exact (below_size (by repeat (first|(with_reducible first|exact HB.out|apply below_alloc|apply pw_below_drewN|apply below_drew1)|exact HB.out))));(case aL => have := LMc13.out;omega);intro v304 w15 ho hb hg hat;rw [← Ny303.out] at ho;have n0_ := Aside0.mk (hb);have n1_ := Aside0.mk (ho);clear HB;clear HO300;have HB := n0_;have HO305 := n1_;clear n0_ n1_;clear ho hb hg hat))
            go_roundg kj3
            case measure => have := HK1.out; have := HJ3.out; omega
            case rel => exact ⟨(y303),(true),(wrap64 (x7_1 + 1)),(by first|rfl|(simp;done)|(simp [*];done)),(by first|rfl|(simp;done)|(simp [*];done)),H',⟨by have := HK1.out;have := HJ3.out;omega⟩,⟨by (with_reducible repeat (first|apply Kd.R_alloc|apply Kd.R_drewN|apply Kd.R_drew));exact HO305.out⟩,⟨by repeat (first|(with_reducible first|exact HB.out|apply below_alloc|apply pw_below_drewN|apply below_drew1)|exact HB.out)⟩⟩
           ·rw [if_neg c13] at H
            exact absurd H (by simp)
         ·rw [if_neg c10] at H
          exact absurd H (by simp)
        ·rw [if_neg c9] at H
         exact absurd H (by simp)
       ·rw [if_neg c8] at H
        exact absurd H (by simp)
      ·replace c7 := Bool.eq_false_iff.mpr c7
       subst c7
       have H1 : (if 0 ≤ x7_1 then (if x7_1 < (l0.length : Int) then (if (rd l0 x7_1) = a1 then (strakeref18_put.l0 kj3 l0 a1 x5_1 x6_1 (wrap64 (x7_1 + 1))) else (if x5_1.length < 17592186044416 then (strakeref18_put.l0 kj3 l0 a1 (x5_1 ++ [rd l0 x7_1]) x6_1 (wrap64 (x7_1 + 1))) else (none))) else (none)) else (none)) = some r := by rw [if_neg (show ¬ (false = true) by decide)] at H;exact H
       clear H
       have H := H1
       clear H1
       by_cases c16 : 0 ≤ x7_1
       ·rw [if_pos c16] at H
        have c16b0 : decide (0 ≤ x7_1) = true := decide_eq_true c16
        clear c16
        by_cases c17 : x7_1 < (l0.length : Int)
        ·rw [if_pos c17] at H
         have c17b0 : decide (x7_1 < (l0.length : Int)) = true := decide_eq_true c17
         clear c17
         by_cases c18 : (rd l0 x7_1) = a1
         ·rw [if_pos c18] at H
          have c18b0 : ((rd l0 x7_1) == a1) = true := beq_iff_eq.mpr c18
          have c18b1 : ((rd l0 x7_1) != a1) = false := bne_eq_false_iff_eq.mpr c18
          clear c18
          have H' := Aside0.mk H
          clear H
          have p306 : 0 ≤ (x7_1 : Int) := of_decide_eq_true (by first | (with_reducible assumption) | assumption)
          have q306 : x7_1 < (l0.length : Int) := of_decide_eq_true (by first|(with_reducible assumption)|assumption)
          obtain ⟨ad306, e306, hx306_0⟩ := Kd.at_int HR0.out x7_1 p306 q306
          cases e306
          replace hx306_0 := (HB.out.cell (World.block_lt_of_cell? w _ hx306_0)).trans hx306_0
          replace p306 := eq_true p306
          replace q306 := eq_true q306
          go_wp2
          go_roundg kj3
          case measure => have := HK1.out; have := HJ3.out; omega
          case rel => exact ⟨(x5_1),(x6_1),(wrap64 (x7_1 + 1)),(by first|rfl|(simp;done)|(simp [*];done)),(by first|rfl|(simp;done)|(simp [*];done)),H',⟨by have := HK1.out;have := HJ3.out;omega⟩,⟨by (with_reducible repeat (first|apply Kd.R_alloc|apply Kd.R_drewN|apply Kd.R_drew));exact HO_5.out⟩,⟨by repeat (first|(with_reducible first|exact HB.out|apply below_alloc|apply pw_below_drewN|apply below_drew1)|exact HB.out)⟩⟩
         ·rw [if_neg c18] at H
          have c18b0 : ((rd l0 x7_1) == a1) = false := beq_eq_false_iff_ne.mpr c18
          have c18b1 : ((rd l0 x7_1) != a1) = true := bne_iff_ne.mpr c18
          by_cases c19 : x5_1.length < 17592186044416
          ·rw [if_pos c19] at H
           have LMc19 := Aside0.mk c19
           clear c19
           obtain ⟨y308, hy308⟩ : ∃ y_ : List Int, y_ = (x5_1 ++ [rd l0 x7_1]) := ⟨_, rfl⟩
           replace H : (strakeref18_put.l0 kj3 l0 a1 y308 x6_1 (wrap64 (x7_1 + 1))) = some r := by first|(rw [hy308];with_reducible exact H)|(have H2_ := (Option.bind_some _ _).symm.trans H;rw [hy308];with_reducible exact H2_)|(have H2_ := (Option.bind_some _ _).symm.trans H;with_reducible exact H2_)|with_reducible exact H|(rw [hy308];exact H)|exact H
           have Ny308 := Aside0.mk hy308
           clear hy308
           have H' := Aside0.mk H
           clear H
           have p306 : 0 ≤ (x7_1 : Int) := of_decide_eq_true (by first | (with_reducible assumption) | assumption)
           have q306 : x7_1 < (l0.length : Int) := of_decide_eq_true (by first|(with_reducible assumption)|assumption)
           obtain ⟨ad306, e306, hx306_0⟩ := Kd.at_int HR0.out x7_1 p306 q306
           cases e306
           replace hx306_0 := (HB.out.cell (World.block_lt_of_cell? w _ hx306_0)).trans hx306_0
           replace p306 := eq_true p306
           replace q306 := eq_true q306
           have p307 : 0 ≤ (x7_1 : Int) := of_decide_eq_true (by first | (with_reducible assumption) | assumption)
           have q307 : x7_1 < (l0.length : Int) := of_decide_eq_true (by first|(with_reducible assumption)|assumption)
           obtain ⟨ad307, e307, hx307_0⟩ := Kd.at_int HR0.out x7_1 p307 q307
           obtain rfl : ad306 = ad307 := (by injection e307)
           replace hx307_0 := (HB.out.cell (World.block_lt_of_cell? w _ hx307_0)).trans hx307_0
           replace p307 := eq_true p307
           replace q307 := eq_true q307
           go_wp2_with (first|((with_reducible refine gate_builtin (b := .append) (xs := #[.tmp 34,.tmp 39]) rfl ?_);at_builtin;refine Kd.R_append (Kd.int .i64) (w0 := w) w.heap.size rfl (.tmp 34) (.tmp 39) 36 3 (.int .i64 0) 8 rfl Try.underlying36 info3 rfl (by decide) (by omega) u5 x5_1 (rd l0 x7_1) [.int .i64 (rd l0 x7_1)] (fun _ => True) (fun _ => False) rfl rfl ?aP (fun _ hk => hk.elim) ?aF ?aO ?aB ?aS ?aL ?_;(case aP => exact rfl);(case aB => exact (by repeat (first|(with_reducible first|exact HB.out|apply below_alloc|apply pw_below_drewN|apply below_drew1)|exact HB.out)));(case aF => exact (fun _ _ => trivial));(case aO => exact (by (with_reducible repeat (first|apply Kd.R_alloc|apply Kd.R_drewN|apply Kd.R_drew));exact HO_5.out));(case aS => exact (below_size (by repeat (first|(with_reducible first|exact HB.out|apply below_alloc|apply pw_below_drewN|apply below_drew1)|exact HB.out))));(case aL => have := LMc19.out;omega);intro v309 w20 ho hb hg hat;rw [← Ny308.out] at ho;have n0_ := Aside0.mk (hb);have n1_ := Aside0.mk (ho);clear HB;clear HO_5;have HB := n0_;have HO310 := n1_;clear n0_ n1_;clear ho hb hg hat))
           go_roundg kj3
           case measure => have := HK1.out; have := HJ3.out; omega
           case rel => exact ⟨(y308),(x6_1),(wrap64 (x7_1 + 1)),(by first|rfl|(simp;done)|(simp [*];done)),(by first|rfl|(simp;done)|(simp [*];done)),H',⟨by have := HK1.out;have := HJ3.out;omega⟩,⟨by (with_reducible repeat (first|apply Kd.R_alloc|apply Kd.R_drewN|apply Kd.R_drew));exact HO310.out⟩,⟨by repeat (first|(with_reducible first|exact HB.out|apply below_alloc|apply pw_below_drewN|apply below_drew1)|exact HB.out)⟩⟩
          ·rw [if_neg c19] at H
           exact absurd H (by simp)
        ·rw [if_neg c17] at H
         exact absurd H (by simp)
       ·rw [if_neg c16] at H
        exact absurd H (by simp)
   ·rw [if_neg c3] at H
    have c3b0 : decide (x7_1 < (l0.length : Int)) = false := decide_eq_false c3
    clear c3
    by_cases c21 : x6_1 = true
    ·subst c21
     have H1 : (some x5_1) = some r := by rw [if_pos rfl] at H; exact H
     clear H
     have H := H1
     clear H1
     obtain rfl := Option.some.inj H
     go_wp2
     go_ret
     exact ⟨_,by first|rfl|(simp [errW_none,errW_some] <;> rfl)|(simp [*,errW_none,errW_some] <;> rfl),by (with_reducible repeat (first|apply Kd.R_alloc|apply Kd.R_drewN|apply Kd.R_drew));exact HO_5.out,by repeat (first|(with_reducible first|exact HB.out|apply below_alloc|apply pw_below_drewN|apply below_drew1)|exact HB.out)⟩
    ·replace c21 := Bool.eq_false_iff.mpr c21
     subst c21
     have H1 : (if x5_1.length < 17592186044416 then (some (x5_1 ++ [a1])) else (none)) = some r := by rw [if_neg (show ¬ (false = true) by decide)] at H;exact H
     clear H
     have H := H1
     clear H1
     by_cases c22 : x5_1.length < 17592186044416
     ·rw [if_pos c22] at H
      have LMc22 := Aside0.mk c22
      clear c22
      obtain ⟨y294, hy294⟩ : ∃ y_ : List Int, y_ = (x5_1 ++ [a1]) := ⟨_, rfl⟩
      replace H : (some y294) = some r := by first|(rw [hy294];with_reducible exact H)|(have H2_ := (Option.bind_some _ _).symm.trans H;rw [hy294];with_reducible exact H2_)|(have H2_ := (Option.bind_some _ _).symm.trans H;with_reducible exact H2_)|with_reducible exact H|(rw [hy294];exact H)|exact H
      have Ny294 := Aside0.mk hy294
      clear hy294
      obtain rfl := Option.some.inj H
      go_wp2_with (first|((with_reducible refine gate_builtin (b := .append) (xs := #[.tmp 43,.tmp 45]) rfl ?_);at_builtin;refine Kd.R_append (Kd.int .i64) (w0 := w) w.heap.size rfl (.tmp 43) (.tmp 45) 36 3 (.int .i64 0) 8 rfl Try.underlying36 info3 rfl (by decide) (by omega) u5 x5_1 a1 [.int .i64 a1] (fun _ => True) (fun _ => False) rfl rfl ?aP (fun _ hk => hk.elim) ?aF ?aO ?aB ?aS ?aL ?_;(case aP => exact rfl);(case aB => exact (by repeat (first|(with_reducible first|exact HB.out|apply below_alloc|apply pw_below_drewN|apply below_drew1)|exact HB.out)));(case aF => exact (fun _ _ => trivial));(case aO => exact (by (with_reducible repeat (first|apply Kd.R_alloc|apply Kd.R_drewN|apply Kd.R_drew));exact HO_5.out));(case aS => exact (below_size (by repeat (first|(with_reducible first|exact HB.out|apply below_alloc|apply pw_below_drewN|apply below_drew1)|exact HB.out))));(case aL => have := LMc22.out;omega);intro v295 w23 ho hb hg hat;rw [← Ny294.out] at ho;have n0_ := Aside0.mk (hb);have n1_ := Aside0.mk (ho);clear HB;clear HO_5;have HB := n0_;have HO296 := n1_;clear n0_ n1_;clear ho hb hg hat))
      go_ret
      exact ⟨_,by first|rfl|(simp [errW_none,errW_some] <;> rfl)|(simp [*,errW_none,errW_some] <;> rfl),by (with_reducible repeat (first|apply Kd.R_alloc|apply Kd.R_drewN|apply Kd.R_drew));exact HO296.out,by repeat (first|(with_reducible first|exact HB.out|apply below_alloc|apply pw_below_drewN|apply below_drew1)|exact HB.out)⟩
     ·rw [if_neg c22] at H
      exact absurd H (by simp)


/-! ### strakeref18_Stale: function 12 -/
mutual
def strakeref18_Stale.j0 : Nat → List (S27) → Int → Bool → Option (List Int)
 | 0, _, _, _ => none
 | k + 1, x0, x1, x13 => if x13 = true then (some ([] : List Int)) else (strakeref18_Stale.l0 k x0 x1 ([] : List Int) 0)
def strakeref18_Stale.l0 : Nat → List (S27) → Int → List Int → Int → Option (List Int)
 | 0, _, _, _, _ => none
 | k + 1,x0,x1,x5,x6 => if x6 < (x0.length : Int) then (if 0 ≤ x6 then ((strakeref18_counts.f ((rd_T27 x0 x6).f0) ((rd_T27 x0 x6).f1.f0) ((rd_T27 x0 x6).f1.f1) ((rd_T27 x0 x6).f1.f2) ((rd_T27 x0 x6).f2) x1).bind fun t312 => (if t312 = true then ((strakeref18_Best.f k x0 x1 ((rd_T27 x0 x6).f1.f1)).bind fun t314 => (if 0 ≤ t314 then (if t314 < (x0.length : Int) then ((strakeref18_newer.f ((rd_T27 x0 t314).f0) ((rd_T27 x0 t314).f1.f0) ((rd_T27 x0 t314).f1.f1) ((rd_T27 x0 t314).f1.f2) ((rd_T27 x0 t314).f2) ((rd_T27 x0 x6).f0) ((rd_T27 x0 x6).f1.f0) ((rd_T27 x0 x6).f1.f1) ((rd_T27 x0 x6).f1.f2) ((rd_T27 x0 x6).f2)).bind fun t317 => (if t317 = true then ((strakeref18_put.f k x5 ((rd_T27 x0 x6).f0)).bind fun t319 => (strakeref18_Stale.l0 k x0 x1 t319 (wrap64 (x6 + 1)))) else (strakeref18_Stale.l0 k x0 x1 x5 (wrap64 (x6 + 1))))) else (none)) else (none))) else (strakeref18_Stale.l0 k x0 x1 x5 (wrap64 (x6 + 1))))) else (none)) else (some x5)
end
def strakeref18_Stale.f (k : Nat) (l0 : List (S27)) (a1 : Int) : Option (List Int) := if a1 < 1 then (strakeref18_Stale.j0 k l0 a1 true) else (strakeref18_Stale.j0 k l0 a1 (decide (a1 > 4096)))
theorem strakeref18_Stale.mono_l : ∀ k,(∀ y0 y1 y2,LeO (strakeref18_Stale.j0 k y0 y1 y2) (strakeref18_Stale.j0 (k + 1) y0 y1 y2)) ∧ (∀ y0 y1 y2 y3,LeO (strakeref18_Stale.l0 k y0 y1 y2 y3) (strakeref18_Stale.l0 (k + 1) y0 y1 y2 y3))
 | 0 => ⟨fun _ _ _ r h => by simp [strakeref18_Stale.j0] at h, fun _ _ _ _ r h => by simp [strakeref18_Stale.l0] at h⟩
 | k + 1 => by
  obtain ⟨ih0, ih1⟩ := strakeref18_Stale.mono_l k
  refine ⟨?_, ?_⟩
  ·intro y0 y1 y2
   unfold strakeref18_Stale.j0
   repeat' first
   | (with_reducible exact ih0 _ _ _)
   | (with_reducible exact ih1 _ _ _ _)
   | (with_reducible exact strakeref18_Best.mono _ _ _ _)
   | (with_reducible exact strakeref18_put.mono _ _ _)
   | (with_reducible exact LeO.refl _)
   | (with_reducible exact LeO.none _)
   | (with_reducible refine LeO.ite ?_ ?_)
   | (with_reducible refine LeO.bind ?_ (fun _ => ?_))
   | exact ih0 _ _ _
   | exact ih1 _ _ _ _
   | exact strakeref18_Best.mono _ _ _ _
   | exact strakeref18_put.mono _ _ _
   | exact LeO.none _
   | refine LeO.ite ?_ ?_
   | refine LeO.bind ?_ (fun _ => ?_)
  ·intro y0 y1 y2 y3
   unfold strakeref18_Stale.l0
   repeat' first
   | (with_reducible exact ih0 _ _ _)
   | (with_reducible exact ih1 _ _ _ _)
   | (with_reducible exact strakeref18_Best.mono _ _ _ _)
   | (with_reducible exact strakeref18_put.mono _ _ _)
   | (with_reducible exact LeO.refl _)
   | (with_reducible exact LeO.none _)
   | (with_reducible refine LeO.ite ?_ ?_)
   | (with_reducible refine LeO.bind ?_ (fun _ => ?_))
   | exact ih0 _ _ _
   | exact ih1 _ _ _ _
   | exact strakeref18_Best.mono _ _ _ _
   | exact strakeref18_put.mono _ _ _
   | exact LeO.none _
   | refine LeO.ite ?_ ?_
   | refine LeO.bind ?_ (fun _ => ?_)
theorem strakeref18_Stale.mono : ∀ a0 a1 k, LeO (strakeref18_Stale.f k a0 a1) (strakeref18_Stale.f (k + 1) a0 a1) := by
 intro a0 a1 k
 obtain ⟨ih0, ih1⟩ := strakeref18_Stale.mono_l k
 unfold strakeref18_Stale.f
 repeat' first
   | (with_reducible exact ih0 _ _ _)
   | (with_reducible exact ih1 _ _ _ _)
   | (with_reducible exact strakeref18_Best.mono _ _ _ _)
   | (with_reducible exact strakeref18_put.mono _ _ _)
   | (with_reducible exact LeO.refl _)
   | (with_reducible exact LeO.none _)
   | (with_reducible refine LeO.ite ?_ ?_)
   | (with_reducible refine LeO.bind ?_ (fun _ => ?_))
   | exact ih0 _ _ _
   | exact ih1 _ _ _ _
   | exact strakeref18_Best.mono _ _ _ _
   | exact strakeref18_put.mono _ _ _
   | exact LeO.none _
   | refine LeO.ite ?_ ?_
   | refine LeO.bind ?_ (fun _ => ?_)
def strakeref18_Stale.T9 : Bool × List (List Nat × List Nat) := (true,[([],[]),([],[]),([0,1],[0,1]),([2],[2]),([],[]),([],[]),([4,5],[4,5]),([6],[6]),([3,7],[3,7])])
def strakeref18_Stale.B9 : List Nat := [0, 0, 3, 7, 0, 0, 48, 112, 255]
theorem strakeref18_Stale.tab9 : rtab .any (opsOf Try.f12 9) = strakeref18_Stale.T9 := by kernel_rfl
theorem strakeref18_Stale.bits9 : waitsOk strakeref18_Stale.T9.2 strakeref18_Stale.B9 = true := by kernel_rfl
set_option maxHeartbeats 8000000 in
set_option maxRecDepth 100000 in
theorem strakeref18_Stale.calls (k : Nat) (A0 : Option Addr) (c0 : Nat) (l0 : List (S27)) (a1 : Int) (r : List Int) (w : World) (hr0 : Kd.C k27 w A0 l0.length l0) (hc0 : l0.length ≤ c0) (h : strakeref18_Stale.f k l0 a1 = some r) :
  Calls Try.prog 12 #[.slice A0 l0.length c0,.int .i64 a1] w fun e w' => ∃ v0_ : Value,e = .returned (v0_) ∧ Kd.R (Kd.int .i64) 3 w' w.heap.size (fun _ => True) v0_ r ∧ Below w.heap.size w w' := by
 have hu27 := Try.underlying27
 have HR0 := Aside0.mk hr0
 have HC0 := Aside0.mk hc0
 clear hr0 hc0
 have HB := Aside0.mk (Below.refl w.heap.size w)
 have H : (if a1 < 1 then (strakeref18_Stale.j0 k l0 a1 true) else (strakeref18_Stale.j0 k l0 a1 (decide (a1 > 4096)))) = some r := h
 clear h
 have HC3 := Aside0.mk H
 clear H
 go_enter Try.func12, Try.ntmps12
 go_upto_region 1 with (fail)
 go_cut [13] (fun v13 wc => ∃ (kq : Nat) (x13_2 : Bool),v13 = .bool x13_2 ∧ Aside0 (strakeref18_Stale.j0 kq l0 a1 x13_2 = some r) ∧ Aside0 (kq ≤ k) ∧ Aside0 (Below w.heap.size w wc))
 case first =>
  have H := HC3.out
  clear HC3
  by_cases c4 : a1 < 1
  ·rw [if_pos c4] at H
   have c4b0 : decide (a1 < 1) = true := decide_eq_true c4
   clear c4
   (first | rw [c4b0] | (simp only [i64_w, i32_w]; rw [c4b0]) | skip)
   have H' := Aside0.mk H
   clear H
   go_wp2
   go_meet
   case rel => exact ⟨_,(true),(by first|rfl|(simp;done)|(simp [*];done)),H',⟨by first|omega|exact Nat.le_refl _⟩,⟨by repeat (first|(with_reducible first|exact HB.out|apply below_alloc|apply pw_below_drewN|apply below_drew1)|exact HB.out)⟩⟩
  ·rw [if_neg c4] at H
   have c4b0 : decide (a1 < 1) = false := decide_eq_false c4
   clear c4
   (first | rw [c4b0] | (simp only [i64_w, i32_w]; rw [c4b0]) | skip)
   have H' := Aside0.mk H
   clear H
   go_wp2
   go_meet
   case rel => exact ⟨_,(decide (a1 > 4096)),(by first|rfl|(simp;done)|(simp [*];done)),H',⟨by first|omega|exact Nat.le_refl _⟩,⟨by repeat (first|(with_reducible first|exact HB.out|apply below_alloc|apply pw_below_drewN|apply below_drew1)|exact HB.out)⟩⟩
 case rest =>
  clear HC3
  try clear c1
  try clear p2
  try clear c4
  try clear c4b0
  obtain ⟨kq, x13_2, rfl, HA, HJ2, HB⟩ := hcut
  cases kq with
  | zero => exact absurd HA.out (by simp [strakeref18_Stale.j0])
  | succ kj2 =>
   have H := HA.out
   clear HA
   simp only [strakeref18_Stale.j0] at H
   by_cases c5 : x13_2 = true
   ·subst c5
    have H1 : (some ([] : List Int)) = some r := by rw [if_pos rfl] at H; exact H
    clear H
    have H := H1
    clear H1
    obtain rfl := Option.some.inj H
    go_wp2
    go_ret
    exact ⟨_,by first|rfl|(simp [errW_none,errW_some] <;> rfl)|(simp [*,errW_none,errW_some] <;> rfl),by first|exact Kd.R_nil _ _ _ _ _|exact Kd.N_nil _ _ _ _ _|exact Kd.V_nil _ _ _ _ _|exact Kd.Q_nil _ _ _ _ _|exact Kd.S_nil _ _ _ _ _,by repeat (first|(with_reducible first|exact HB.out|apply below_alloc|apply pw_below_drewN|apply below_drew1)|exact HB.out)⟩
   ·replace c5 := Bool.eq_false_iff.mpr c5
    subst c5
    have H1 : (strakeref18_Stale.l0 kj2 l0 a1 ([] : List Int) 0) = some r := by rw [if_neg (show ¬ (false = true) by decide)] at H;exact H
    clear H
    have H := H1
    clear H1
    have H' := Aside0.mk H
    clear H
    go_wp2
    go_loopg [5,6] kj2 (fun kq v5 v6 w' => ∃ (x5_2 : List Int) (x6_2 : Int),v6 = .int .i64 x6_2 ∧ Aside0 (strakeref18_Stale.l0 kq l0 a1 x5_2 x6_2 = some r) ∧ Aside0 (kq ≤ kj2) ∧ Aside0 (Kd.R (Kd.int .i64) 3 w' w.heap.size (fun _ => True) v5 x5_2) ∧ Aside0 (Below w.heap.size w w'))
    case atStart => exact ⟨(([] : List Int)),(0),(by first|rfl|(simp;done)|(simp [*];done)),H',⟨Nat.le_refl _⟩,⟨by first|exact Kd.R_nil _ _ _ _ _|exact Kd.N_nil _ _ _ _ _|exact Kd.V_nil _ _ _ _ _|exact Kd.Q_nil _ _ _ _ _|exact Kd.S_nil _ _ _ _ _⟩,⟨by repeat (first|(with_reducible first|exact HB.out|apply below_alloc|apply pw_below_drewN|apply below_drew1)|exact HB.out)⟩⟩
    case round =>
     clear H'
     try clear c1
     try clear p2
     try clear c4
     try clear c4b0
     try clear c5
     try clear p2
     obtain ⟨x5_2, x6_2, rfl, HA, HK2, HO_5, HB⟩ := hrel
     cases gk with
     | zero => exact absurd HA.out (by simp [strakeref18_Stale.l0])
     | succ k2 =>
      have H := HA.out
      clear HA
      simp only [strakeref18_Stale.l0] at H
      by_cases c6 : x6_2 < (l0.length : Int)
      ·rw [if_pos c6] at H
       have c6b0 : decide (x6_2 < (l0.length : Int)) = true := decide_eq_true c6
       clear c6
       by_cases c7 : 0 ≤ x6_2
       ·rw [if_pos c7] at H
        have c7b0 : decide (0 ≤ x6_2) = true := decide_eq_true c7
        clear c7
        replace H := Option.bind_eq_some_iff.mp H
        obtain ⟨t312, A80, H⟩ := H
        replace H : (if t312 = true then ((strakeref18_Best.f k2 l0 a1 ((rd_T27 l0 x6_2).f1.f1)).bind fun t314 => (if 0 ≤ t314 then (if t314 < (l0.length : Int) then ((strakeref18_newer.f ((rd_T27 l0 t314).f0) ((rd_T27 l0 t314).f1.f0) ((rd_T27 l0 t314).f1.f1) ((rd_T27 l0 t314).f1.f2) ((rd_T27 l0 t314).f2) ((rd_T27 l0 x6_2).f0) ((rd_T27 l0 x6_2).f1.f0) ((rd_T27 l0 x6_2).f1.f1) ((rd_T27 l0 x6_2).f1.f2) ((rd_T27 l0 x6_2).f2)).bind fun t317 => (if t317 = true then ((strakeref18_put.f k2 x5_2 ((rd_T27 l0 x6_2).f0)).bind fun t319 => (strakeref18_Stale.l0 k2 l0 a1 t319 (wrap64 (x6_2 + 1)))) else (strakeref18_Stale.l0 k2 l0 a1 x5_2 (wrap64 (x6_2 + 1))))) else (none)) else (none))) else (strakeref18_Stale.l0 k2 l0 a1 x5_2 (wrap64 (x6_2 + 1)))) = some r := H
        have A8 := Aside0.mk A80
        clear A80
        by_cases c9 : t312 = true
        ·subst c9
         have H1 : ((strakeref18_Best.f k2 l0 a1 ((rd_T27 l0 x6_2).f1.f1)).bind fun t314 => (if 0 ≤ t314 then (if t314 < (l0.length : Int) then ((strakeref18_newer.f ((rd_T27 l0 t314).f0) ((rd_T27 l0 t314).f1.f0) ((rd_T27 l0 t314).f1.f1) ((rd_T27 l0 t314).f1.f2) ((rd_T27 l0 t314).f2) ((rd_T27 l0 x6_2).f0) ((rd_T27 l0 x6_2).f1.f0) ((rd_T27 l0 x6_2).f1.f1) ((rd_T27 l0 x6_2).f1.f2) ((rd_T27 l0 x6_2).f2)).bind fun t317 => (if t317 = true then ((strakeref18_put.f k2 x5_2 ((rd_T27 l0 x6_2).f0)).bind fun t319 => (strakeref18_Stale.l0 k2 l0 a1 t319 (wrap64 (x6_2 + 1)))) else (strakeref18_Stale.l0 k2 l0 a1 x5_2 (wrap64 (x6_2 + 1))))) else (none)) else (none))) = some r := by rw [if_pos rfl] at H;exact H
         clear H
         have H := H1
         clear H1
         replace H := Option.bind_eq_some_iff.mp H
         obtain ⟨t314, A100, H⟩ := H
         replace H : (if 0 ≤ t314 then (if t314 < (l0.length : Int) then ((strakeref18_newer.f ((rd_T27 l0 t314).f0) ((rd_T27 l0 t314).f1.f0) ((rd_T27 l0 t314).f1.f1) ((rd_T27 l0 t314).f1.f2) ((rd_T27 l0 t314).f2) ((rd_T27 l0 x6_2).f0) ((rd_T27 l0 x6_2).f1.f0) ((rd_T27 l0 x6_2).f1.f1) ((rd_T27 l0 x6_2).f1.f2) ((rd_T27 l0 x6_2).f2)).bind fun t317 => (if t317 = true then ((strakeref18_put.f k2 x5_2 ((rd_T27 l0 x6_2).f0)).bind fun t319 => (strakeref18_Stale.l0 k2 l0 a1 t319 (wrap64 (x6_2 + 1)))) else (strakeref18_Stale.l0 k2 l0 a1 x5_2 (wrap64 (x6_2 + 1))))) else (none)) else (none)) = some r := H
         have A10 := Aside0.mk A100
         clear A100
         by_cases c11 : 0 ≤ t314
         ·rw [if_pos c11] at H
          have c11b0 : decide (0 ≤ t314) = true := decide_eq_true c11
          clear c11
          by_cases c12 : t314 < (l0.length : Int)
          ·rw [if_pos c12] at H
           have c12b0 : decide (t314 < (l0.length : Int)) = true := decide_eq_true c12
           clear c12
           replace H := Option.bind_eq_some_iff.mp H
           obtain ⟨t317, A130, H⟩ := H
           replace H : (if t317 = true then ((strakeref18_put.f k2 x5_2 ((rd_T27 l0 x6_2).f0)).bind fun t319 => (strakeref18_Stale.l0 k2 l0 a1 t319 (wrap64 (x6_2 + 1)))) else (strakeref18_Stale.l0 k2 l0 a1 x5_2 (wrap64 (x6_2 + 1)))) = some r := H
           have A13 := Aside0.mk A130
           clear A130
           by_cases c14 : t317 = true
           ·subst c14
            have H1 : ((strakeref18_put.f k2 x5_2 ((rd_T27 l0 x6_2).f0)).bind fun t319 => (strakeref18_Stale.l0 k2 l0 a1 t319 (wrap64 (x6_2 + 1)))) = some r := by rw [if_pos rfl] at H;exact H
            clear H
            have H := H1
            clear H1
            replace H := Option.bind_eq_some_iff.mp H
            obtain ⟨t319, A150, H⟩ := H
            replace H : (strakeref18_Stale.l0 k2 l0 a1 t319 (wrap64 (x6_2 + 1))) = some r := H
            have A15 := Aside0.mk A150
            clear A150
            have H' := Aside0.mk H
            clear H
            have p311 : 0 ≤ (x6_2 : Int) := of_decide_eq_true (by first | (with_reducible assumption) | assumption)
            have q311 : x6_2 < (l0.length : Int) := of_decide_eq_true (by first|(with_reducible assumption)|assumption)
            obtain ⟨ad311, e311, hx311_0, hx311_1, hx311_2, hx311_3, hx311_4⟩ := at_T27 HR0.out x6_2 p311 q311
            cases e311
            replace hx311_0 := (HB.out.cell (World.block_lt_of_cell? w _ hx311_0)).trans hx311_0
            replace hx311_1 := (HB.out.cell (World.block_lt_of_cell? w _ hx311_1)).trans hx311_1
            replace hx311_2 := (HB.out.cell (World.block_lt_of_cell? w _ hx311_2)).trans hx311_2
            replace hx311_3 := (HB.out.cell (World.block_lt_of_cell? w _ hx311_3)).trans hx311_3
            replace hx311_4 := (HB.out.cell (World.block_lt_of_cell? w _ hx311_4)).trans hx311_4
            replace p311 := eq_true p311
            replace q311 := eq_true q311
            try go_wp2_with (first|((with_reducible refine gate_callee (f := 21) rfl ?_);refine goesL_ (some 25) rfl rfl Try.func21 (by kernel_rfl) rfl #[.agg #[.int .i64 ((rd_T27 l0 x6_2).f0),.int .i64 ((rd_T27 l0 x6_2).f1.f0),.int .i64 ((rd_T27 l0 x6_2).f1.f1),.int .i64 ((rd_T27 l0 x6_2).f1.f2),.slice ((rd_T27 l0 x6_2).f2).a ((rd_T27 l0 x6_2).f2).n ((rd_T27 l0 x6_2).f2).c],.int .i64 a1] rfl (by (try simp only [List.map_toArray,List.map_cons,List.map_nil]);first|done|rfl|(simp only [List.length_drop,List.length_take];rfl)) ?_;(with_reducible refine (strakeref18_counts.calls ((rd_T27 l0 x6_2).f0) ((rd_T27 l0 x6_2).f1.f0) ((rd_T27 l0 x6_2).f1.f1) ((rd_T27 l0 x6_2).f1.f2) ((rd_T27 l0 x6_2).f2) a1 true _ A8.out).mono ?_);rintro e w16 ⟨rfl,hb⟩;refine ⟨_,rfl,?_⟩;have n0_ := Aside0.mk (Kd.R_below (by (with_reducible repeat (first|apply Kd.R_alloc|apply Kd.R_drewN|apply Kd.R_drew));exact HO_5.out) hb);have n1_ := Aside0.mk (below_step (by repeat (first|(with_reducible first|exact HB.out|apply below_alloc|apply pw_below_drewN|apply below_drew1)|exact HB.out)) hb);clear HO_5;clear HB;have HO_5 := n0_;have HB := n1_;clear n0_ n1_;(try clear hb);(try clear hb2);(try clear hk);(try clear hi);have p313 : 0 ≤ (x6_2 : Int) := of_decide_eq_true (by first|(with_reducible assumption)|assumption);have q313 : x6_2 < (l0.length : Int) := of_decide_eq_true (by first|(with_reducible assumption)|assumption);obtain ⟨ad313,e313,hx313_0,hx313_1,hx313_2,hx313_3,hx313_4⟩ := at_T27 HR0.out x6_2 p313 q313;obtain rfl : ad311 = ad313 := (by injection e313);replace hx313_0 := (HB.out.cell (World.block_lt_of_cell? w _ hx313_0)).trans hx313_0;replace hx313_1 := (HB.out.cell (World.block_lt_of_cell? w _ hx313_1)).trans hx313_1;replace hx313_2 := (HB.out.cell (World.block_lt_of_cell? w _ hx313_2)).trans hx313_2;replace hx313_3 := (HB.out.cell (World.block_lt_of_cell? w _ hx313_3)).trans hx313_3;replace hx313_4 := (HB.out.cell (World.block_lt_of_cell? w _ hx313_4)).trans hx313_4;replace p313 := eq_true p313;replace q313 := eq_true q313)|((with_reducible refine gate_callee (f := 22) rfl ?_);refine goesL_ (some 35) rfl rfl Try.func22 (by kernel_rfl) rfl #[.slice (some ad311) l0.length c0,.int .i64 a1,.int .i64 ((rd_T27 l0 x6_2).f1.f1)] rfl (by (try simp only [List.map_toArray,List.map_cons,List.map_nil]);first|done|rfl|(simp only [List.length_drop,List.length_take];rfl)) ?_;(with_reducible refine (strakeref18_Best.calls k2 _ _ l0 a1 ((rd_T27 l0 x6_2).f1.f1) t314 _ ?side1 ?side2 A10.out).mono ?_);(case side1 => repeat (first|exact (Kd.C_below HR0.out HB.out)|(with_reducible refine Kd.C_alloc ?_ _)|(with_reducible refine Kd.C_drewN ?_ _)|(with_reducible refine Kd.C_drew ?_)));(case side2 => exact HC0.out);rintro e w17 ⟨rfl,hb⟩;refine ⟨_,rfl,?_⟩;have n0_ := Aside0.mk (Kd.R_below (by (with_reducible repeat (first|apply Kd.R_alloc|apply Kd.R_drewN|apply Kd.R_drew));exact HO_5.out) hb);have n1_ := Aside0.mk (below_step (by repeat (first|(with_reducible first|exact HB.out|apply below_alloc|apply pw_below_drewN|apply below_drew1)|exact HB.out)) hb);clear HO_5;clear HB;have HO_5 := n0_;have HB := n1_;clear n0_ n1_;(try clear hb);(try clear hb2);(try clear hk);(try clear hi)))
            (try (rw [drewN_self w17];generalize hq_ : World.drewN w17 _ = w17;have n0_ : Aside0 (Kd.R (Kd.int .i64) 3 w17 w.heap.size (fun _ => True) u5 x5_2) := ⟨by rw [← hq_];exact (by (with_reducible repeat (first|apply Kd.R_alloc|apply Kd.R_drewN|apply Kd.R_drew));exact HO_5.out)⟩;have n1_ : Aside0 (Below w.heap.size w w17) := ⟨by rw [← hq_];exact (by repeat (first|(with_reducible first|exact HB.out|apply below_alloc|apply pw_below_drewN|apply below_drew1)|exact HB.out))⟩;clear HO_5 HB hq_;have HO_5 := n0_;have HB := n1_;clear n0_ n1_))
            have n0_ := Aside0.mk (Kd.R_drew HO_5.out)
            have n1_ := Aside0.mk (below_drew1 HB.out)
            clear HO_5
            clear HB
            have HO_5 := n0_
            have HB := n1_
            clear n0_ n1_
            have p315 : 0 ≤ (t314 : Int) := of_decide_eq_true (by first | (with_reducible assumption) | assumption)
            have q315 : t314 < (l0.length : Int) := of_decide_eq_true (by first|(with_reducible assumption)|assumption)
            obtain ⟨ad315, e315, hx315_0, hx315_1, hx315_2, hx315_3, hx315_4⟩ := at_T27 HR0.out t314 p315 q315
            have hw315_4 := hx315_4
            have hw315_3 := hx315_3
            have hw315_2 := hx315_2
            have hw315_1 := hx315_1
            have hw315_0 := hx315_0
            obtain rfl : ad311 = ad315 := (by injection e315)
            replace hx315_0 := (HB.out.cell (World.block_lt_of_cell? w _ hx315_0)).trans hx315_0
            replace hx315_1 := (HB.out.cell (World.block_lt_of_cell? w _ hx315_1)).trans hx315_1
            replace hx315_2 := (HB.out.cell (World.block_lt_of_cell? w _ hx315_2)).trans hx315_2
            replace hx315_3 := (HB.out.cell (World.block_lt_of_cell? w _ hx315_3)).trans hx315_3
            replace hx315_4 := (HB.out.cell (World.block_lt_of_cell? w _ hx315_4)).trans hx315_4
            replace p315 := eq_true p315
            replace q315 := eq_true q315
            have p316 : 0 ≤ (x6_2 : Int) := of_decide_eq_true (by first | (with_reducible assumption) | assumption)
            have q316 : x6_2 < (l0.length : Int) := of_decide_eq_true (by first|(with_reducible assumption)|assumption)
            obtain ⟨ad316, e316, hx316_0, hx316_1, hx316_2, hx316_3, hx316_4⟩ := at_T27 HR0.out x6_2 p316 q316
            have hw316_4 := hx316_4
            have hw316_3 := hx316_3
            have hw316_2 := hx316_2
            have hw316_1 := hx316_1
            have hw316_0 := hx316_0
            obtain rfl : ad311 = ad316 := (by injection e316)
            replace hx316_0 := (HB.out.cell (World.block_lt_of_cell? w _ hx316_0)).trans hx316_0
            replace hx316_1 := (HB.out.cell (World.block_lt_of_cell? w _ hx316_1)).trans hx316_1
            replace hx316_2 := (HB.out.cell (World.block_lt_of_cell? w _ hx316_2)).trans hx316_2
            replace hx316_3 := (HB.out.cell (World.block_lt_of_cell? w _ hx316_3)).trans hx316_3
            replace hx316_4 := (HB.out.cell (World.block_lt_of_cell? w _ hx316_4)).trans hx316_4
            replace p316 := eq_true p316
            replace q316 := eq_true q316
            refine start_ (n := 9) (S := fun w' => w'.cell? (ad311.add ((t314).toNat * 5)) = some (.int .i64 ((rd_T27 l0 t314).f0)) ∧ w'.cell? ⟨(ad311.add ((t314).toNat * 5)).block,(ad311.add ((t314).toNat * 5)).off + 1,none⟩ = some (.int .i64 ((rd_T27 l0 t314).f1.f0)) ∧ w'.cell? ⟨(ad311.add ((t314).toNat * 5)).block,(ad311.add ((t314).toNat * 5)).off + 2,none⟩ = some (.int .i64 ((rd_T27 l0 t314).f1.f1)) ∧ w'.cell? ⟨(ad311.add ((t314).toNat * 5)).block,(ad311.add ((t314).toNat * 5)).off + 3,none⟩ = some (.int .i64 ((rd_T27 l0 t314).f1.f2)) ∧ w'.cell? ⟨(ad311.add ((t314).toNat * 5)).block,(ad311.add ((t314).toNat * 5)).off + 4,none⟩ = some (.slice ((rd_T27 l0 t314).f2).a ((rd_T27 l0 t314).f2).n ((rd_T27 l0 t314).f2).c) ∧ w'.cell? (ad311.add ((x6_2).toNat * 5)) = some (.int .i64 ((rd_T27 l0 x6_2).f0)) ∧ w'.cell? ⟨(ad311.add ((x6_2).toNat * 5)).block,(ad311.add ((x6_2).toNat * 5)).off + 1,none⟩ = some (.int .i64 ((rd_T27 l0 x6_2).f1.f0)) ∧ w'.cell? ⟨(ad311.add ((x6_2).toNat * 5)).block,(ad311.add ((x6_2).toNat * 5)).off + 2,none⟩ = some (.int .i64 ((rd_T27 l0 x6_2).f1.f1)) ∧ w'.cell? ⟨(ad311.add ((x6_2).toNat * 5)).block,(ad311.add ((x6_2).toNat * 5)).off + 3,none⟩ = some (.int .i64 ((rd_T27 l0 x6_2).f1.f2)) ∧ w'.cell? ⟨(ad311.add ((x6_2).toNat * 5)).block,(ad311.add ((x6_2).toNat * 5)).off + 4,none⟩ = some (.slice ((rd_T27 l0 x6_2).f2).a ((rd_T27 l0 x6_2).f2).n ((rd_T27 l0 x6_2).f2).c)) (ds := []) #[false,false,false,false,false,false,false,false,false] (by kernel_rfl) rfl rfl ⟨((HB.out.cell (World.block_lt_of_cell? w _ hw315_0)).trans hw315_0),((HB.out.cell (World.block_lt_of_cell? w _ hw315_1)).trans hw315_1),((HB.out.cell (World.block_lt_of_cell? w _ hw315_2)).trans hw315_2),((HB.out.cell (World.block_lt_of_cell? w _ hw315_3)).trans hw315_3),((HB.out.cell (World.block_lt_of_cell? w _ hw315_4)).trans hw315_4),((HB.out.cell (World.block_lt_of_cell? w _ hw316_0)).trans hw316_0),((HB.out.cell (World.block_lt_of_cell? w _ hw316_1)).trans hw316_1),((HB.out.cell (World.block_lt_of_cell? w _ hw316_2)).trans hw316_2),((HB.out.cell (World.block_lt_of_cell? w _ hw316_3)).trans hw316_3),((HB.out.cell (World.block_lt_of_cell? w _ hw316_4)).trans hw316_4)⟩ (fun hHeld => ?_);refine with_tabW strakeref18_Stale.tab9 strakeref18_Stale.bits9 (fun HT_ HW_ => ?_)
            generalize w17.drew = w18 at HO_5 HB hx315_0 hx315_1 hx315_2 hx315_3 hx315_4 hx316_0 hx316_1 hx316_2 hx316_3 hx316_4 hHeld ⊢
            refine pure_ (i := 0) (N := some 36) (v := ?_) (a' := ?_) #[true,false,false,false,false,false,false,false,false] rfl rfl (any_of HT_.out (by kernel_rfl)) (fun _ _ _ h => h) (Or.inl ⟨by rfl,?_⟩) ?_ ?_
            rotate_left
            ·intro w'
             go_simp
             with_reducible rfl
            rotate_left
            ·simp only [Act.put, qa, qb, qc, i64_w, i32_w]
             rfl
            refine pure_ (i := 1) (N := some 37) (v := ?_) (a' := ?_) #[true,true,false,false,false,false,false,false,false] rfl rfl (any_of HT_.out (by kernel_rfl)) (fun _ _ _ h => h) (Or.inl ⟨by rfl,?_⟩) ?_ ?_
            rotate_left
            ·intro w'
             go_simp
             with_reducible rfl
            rotate_left
            ·simp only [Act.put, qa, qb, qc, i64_w, i32_w]
             rfl
            refine pure_ (i := 2) (N := some 38) (v := ?_) (a' := ?_) #[true,true,true,false,false,false,false,false,false] rfl rfl (any_of HT_.out (by kernel_rfl)) (fun _ _ _ h => h) (Or.inl ⟨by rfl,?_⟩) ?_ ?_
            rotate_left
            ·intro w'
             go_simp
             with_reducible rfl
            rotate_left
            ·simp only [Act.put, qa, qb, qc, i64_w, i32_w]
             rfl
            refine pure_ (i := 4) (N := some 40) (v := ?_) (a' := ?_) #[true,true,true,false,true,false,false,false,false] rfl rfl (any_of HT_.out (by kernel_rfl)) (fun _ _ _ h => h) (Or.inl ⟨by rfl,?_⟩) ?_ ?_
            rotate_left
            ·intro w'
             go_simp
             with_reducible rfl
            rotate_left
            ·simp only [Act.put, qa, qb, qc, i64_w, i32_w]
             rfl
            refine pure_ (i := 5) (N := some 41) (v := ?_) (a' := ?_) #[true,true,true,false,true,true,false,false,false] rfl rfl (any_of HT_.out (by kernel_rfl)) (fun _ _ _ h => h) (Or.inl ⟨by rfl,?_⟩) ?_ ?_
            rotate_left
            ·intro w'
             go_simp
             with_reducible rfl
            rotate_left
            ·simp only [Act.put, qa, qb, qc, i64_w, i32_w]
             rfl
            refine pure_ (i := 6) (N := some 42) (v := ?_) (a' := ?_) #[true,true,true,false,true,true,true,false,false] rfl rfl (any_of HT_.out (by kernel_rfl)) (fun _ _ _ h => h) (Or.inl ⟨by rfl,?_⟩) ?_ ?_
            rotate_left
            ·intro w'
             go_simp
             with_reducible rfl
            rotate_left
            ·simp only [Act.put, qa, qb, qc, i64_w, i32_w]
             rfl
            refine take_ (i := 3) (N := some 39) (v := ?_) (a' := ?_) #[true,true,true,true,true,true,true,false,false] rfl rfl (take_ofW HT_.out HW_.out (by kernel_rfl)) (fun _ _ _ h => h) (Or.inl ⟨by rfl,?_⟩) hHeld ?_ ?_
            rotate_left
            ·rintro w' ⟨s0, s1, s2, s3, s4, s5, s6, s7, s8, s9⟩
             go_simp
             with_reducible rfl
            rotate_left
            ·simp only [Act.put, qa, qb, qc, i64_w, i32_w]
             rfl
            refine take_ (i := 7) (N := some 43) (v := ?_) (a' := ?_) #[true,true,true,true,true,true,true,true,false] rfl rfl (take_ofW HT_.out HW_.out (by kernel_rfl)) (fun _ _ _ h => h) (Or.inl ⟨by rfl,?_⟩) hHeld ?_ ?_
            rotate_left
            ·rintro w' ⟨s0, s1, s2, s3, s4, s5, s6, s7, s8, s9⟩
             go_simp
             with_reducible rfl
            rotate_left
            ·simp only [Act.put, qa, qb, qc, i64_w, i32_w]
             rfl
            refine one_ (i := 8) (N := some 44) #[true,true,true,true,true,true,true,true,true] rfl rfl (one_of HT_.out (by kernel_rfl)) (by decide) (fun K hK => ?_)
            refine goes_ Try.func23 (by kernel_rfl) rfl #[.agg #[.int .i64 ((rd_T27 l0 t314).f0),.int .i64 ((rd_T27 l0 t314).f1.f0),.int .i64 ((rd_T27 l0 t314).f1.f1),.int .i64 ((rd_T27 l0 t314).f1.f2),.slice ((rd_T27 l0 t314).f2).a ((rd_T27 l0 t314).f2).n ((rd_T27 l0 t314).f2).c],.agg #[.int .i64 ((rd_T27 l0 x6_2).f0),.int .i64 ((rd_T27 l0 x6_2).f1.f0),.int .i64 ((rd_T27 l0 x6_2).f1.f1),.int .i64 ((rd_T27 l0 x6_2).f1.f2),.slice ((rd_T27 l0 x6_2).f2).a ((rd_T27 l0 x6_2).f2).n ((rd_T27 l0 x6_2).f2).c]] (by rfl) rfl rfl (by (try simp only [List.map_toArray,List.map_cons,List.map_nil]);first|done|rfl|(simp only [List.length_drop,List.length_take];rfl)) ?_
            with_reducible refine (strakeref18_newer.calls ((rd_T27 l0 t314).f0) ((rd_T27 l0 t314).f1.f0) ((rd_T27 l0 t314).f1.f1) ((rd_T27 l0 t314).f1.f2) ((rd_T27 l0 t314).f2) ((rd_T27 l0 x6_2).f0) ((rd_T27 l0 x6_2).f1.f0) ((rd_T27 l0 x6_2).f1.f1) ((rd_T27 l0 x6_2).f1.f2) ((rd_T27 l0 x6_2).f2) true _ A13.out).mono ?_
            rintro e w19 ⟨rfl, hb⟩
            refine ⟨_, rfl, ?_⟩
            have n0_ := Aside0.mk (Kd.R_below (by (with_reducible repeat (first|apply Kd.R_alloc|apply Kd.R_drewN|apply Kd.R_drew));exact HO_5.out) hb)
            have n1_ := Aside0.mk (below_step (by repeat (first|(with_reducible first|exact HB.out|apply below_alloc|apply pw_below_drewN|apply below_drew1)|exact HB.out)) hb)
            clear HO_5
            clear HB
            have HO_5 := n0_
            have HB := n1_
            clear n0_ n1_
            (try clear hb)
            (try clear hb2)
            (try clear hk)
            (try clear hi)
            refine hK.out _ _ ⟨((HB.out.cell (World.block_lt_of_cell? w _ hw315_0)).trans hw315_0),((HB.out.cell (World.block_lt_of_cell? w _ hw315_1)).trans hw315_1),((HB.out.cell (World.block_lt_of_cell? w _ hw315_2)).trans hw315_2),((HB.out.cell (World.block_lt_of_cell? w _ hw315_3)).trans hw315_3),((HB.out.cell (World.block_lt_of_cell? w _ hw315_4)).trans hw315_4),((HB.out.cell (World.block_lt_of_cell? w _ hw316_0)).trans hw316_0),((HB.out.cell (World.block_lt_of_cell? w _ hw316_1)).trans hw316_1),((HB.out.cell (World.block_lt_of_cell? w _ hw316_2)).trans hw316_2),((HB.out.cell (World.block_lt_of_cell? w _ hw316_3)).trans hw316_3),((HB.out.cell (World.block_lt_of_cell? w _ hw316_4)).trans hw316_4)⟩ (fun hHeld => ?_)
            clear hK K
            refine norm_ (a' := ?_) ?_ ?_
            rotate_left
            ·show Act.put _ (some 44) _ = _
             simp only [Act.put, qa, qb, qc, i64_w, i32_w]
             rfl
            refine done_ (done_of HT_.out (by kernel_rfl)) ?_
            have p318 : 0 ≤ (x6_2 : Int) := of_decide_eq_true (by first | (with_reducible assumption) | assumption)
            have q318 : x6_2 < (l0.length : Int) := of_decide_eq_true (by first|(with_reducible assumption)|assumption)
            obtain ⟨ad318, e318, hx318_0, hx318_1, hx318_2, hx318_3, hx318_4⟩ := at_T27 HR0.out x6_2 p318 q318
            obtain rfl : ad311 = ad318 := (by injection e318)
            replace hx318_0 := (HB.out.cell (World.block_lt_of_cell? w _ hx318_0)).trans hx318_0
            replace hx318_1 := (HB.out.cell (World.block_lt_of_cell? w _ hx318_1)).trans hx318_1
            replace hx318_2 := (HB.out.cell (World.block_lt_of_cell? w _ hx318_2)).trans hx318_2
            replace hx318_3 := (HB.out.cell (World.block_lt_of_cell? w _ hx318_3)).trans hx318_3
            replace hx318_4 := (HB.out.cell (World.block_lt_of_cell? w _ hx318_4)).trans hx318_4
            replace p318 := eq_true p318
            replace q318 := eq_true q318
            obtain ⟨Ao20, co20, eo20⟩ := Kd.R_slice HO_5.out
            subst eo20
            try go_wp2_with (first|((with_reducible refine gate_callee (f := 24) rfl ?_);refine goesL_ (some 51) rfl rfl Try.func24 (by kernel_rfl) rfl #[.slice Ao20 x5_2.length co20,.int .i64 ((rd_T27 l0 x6_2).f0)] rfl (by (try simp only [List.map_toArray,List.map_cons,List.map_nil]);first|done|rfl|(simp only [List.length_drop,List.length_take];rfl)) ?_;(with_reducible refine (strakeref18_put.calls k2 _ _ x5_2 ((rd_T27 l0 x6_2).f0) t319 _ ?side1 ?side2 A15.out).mono ?_);(case side1 => repeat (first|exact (Kd.R_reads' HO_5.out).2.2|(with_reducible refine Kd.C_alloc ?_ _)|(with_reducible refine Kd.C_drewN ?_ _)|(with_reducible refine Kd.C_drew ?_)));(case side2 => exact (Kd.R_reads' HO_5.out).2.1);rintro e w21 ⟨v320,rfl,ho0,hb⟩;refine ⟨_,rfl,?_⟩;have n0_ := Aside0.mk (Kd.R_elder' (by (with_reducible repeat (first|apply Kd.R_alloc|apply Kd.R_drewN|apply Kd.R_drew));exact HO_5.out) (Kd.R_base ho0) hb);have n1_ := Aside0.mk (Kd.R_lower (Kd.R_new' ho0 (Kd.R_lt (by (with_reducible repeat (first|apply Kd.R_alloc|apply Kd.R_drewN|apply Kd.R_drew));exact HO_5.out))) (below_size (by repeat (first|(with_reducible first|exact HB.out|apply below_alloc|apply pw_below_drewN|apply below_drew1)|exact HB.out))));have n2_ := Aside0.mk (below_step (by repeat (first|(with_reducible first|exact HB.out|apply below_alloc|apply pw_below_drewN|apply below_drew1)|exact HB.out)) hb);clear HO_5;clear HB;have HO_5 := n0_;have HO321 := n1_;have HB := n2_;clear n0_ n1_ n2_;(try clear hb);(try clear hb2);(try clear hk);(try clear hi);(try clear ho0)))
            go_roundg k2
            case measure => have := HJ2.out; have := HK2.out; omega
            case rel => exact ⟨(t319),(wrap64 (x6_2 + 1)),(by first|rfl|(simp;done)|(simp [*];done)),H',⟨by have := HJ2.out;have := HK2.out;omega⟩,⟨by (with_reducible repeat (first|apply Kd.R_alloc|apply Kd.R_drewN|apply Kd.R_drew));exact Kd.R_mono HO321.out (fun _ hk => trivial)⟩,⟨by repeat (first|(with_reducible first|exact HB.out|apply below_alloc|apply pw_below_drewN|apply below_drew1)|exact HB.out)⟩⟩
           ·replace c14 := Bool.eq_false_iff.mpr c14
            subst c14
            have H1 : (strakeref18_Stale.l0 k2 l0 a1 x5_2 (wrap64 (x6_2 + 1))) = some r := by rw [if_neg (show ¬ (false = true) by decide)] at H;exact H
            clear H
            have H := H1
            clear H1
            have H' := Aside0.mk H
            clear H
            have p311 : 0 ≤ (x6_2 : Int) := of_decide_eq_true (by first | (with_reducible assumption) | assumption)
            have q311 : x6_2 < (l0.length : Int) := of_decide_eq_true (by first|(with_reducible assumption)|assumption)
            obtain ⟨ad311, e311, hx311_0, hx311_1, hx311_2, hx311_3, hx311_4⟩ := at_T27 HR0.out x6_2 p311 q311
            cases e311
            replace hx311_0 := (HB.out.cell (World.block_lt_of_cell? w _ hx311_0)).trans hx311_0
            replace hx311_1 := (HB.out.cell (World.block_lt_of_cell? w _ hx311_1)).trans hx311_1
            replace hx311_2 := (HB.out.cell (World.block_lt_of_cell? w _ hx311_2)).trans hx311_2
            replace hx311_3 := (HB.out.cell (World.block_lt_of_cell? w _ hx311_3)).trans hx311_3
            replace hx311_4 := (HB.out.cell (World.block_lt_of_cell? w _ hx311_4)).trans hx311_4
            replace p311 := eq_true p311
            replace q311 := eq_true q311
            try go_wp2_with (first|((with_reducible refine gate_callee (f := 21) rfl ?_);refine goesL_ (some 25) rfl rfl Try.func21 (by kernel_rfl) rfl #[.agg #[.int .i64 ((rd_T27 l0 x6_2).f0),.int .i64 ((rd_T27 l0 x6_2).f1.f0),.int .i64 ((rd_T27 l0 x6_2).f1.f1),.int .i64 ((rd_T27 l0 x6_2).f1.f2),.slice ((rd_T27 l0 x6_2).f2).a ((rd_T27 l0 x6_2).f2).n ((rd_T27 l0 x6_2).f2).c],.int .i64 a1] rfl (by (try simp only [List.map_toArray,List.map_cons,List.map_nil]);first|done|rfl|(simp only [List.length_drop,List.length_take];rfl)) ?_;(with_reducible refine (strakeref18_counts.calls ((rd_T27 l0 x6_2).f0) ((rd_T27 l0 x6_2).f1.f0) ((rd_T27 l0 x6_2).f1.f1) ((rd_T27 l0 x6_2).f1.f2) ((rd_T27 l0 x6_2).f2) a1 true _ A8.out).mono ?_);rintro e w22 ⟨rfl,hb⟩;refine ⟨_,rfl,?_⟩;have n0_ := Aside0.mk (Kd.R_below (by (with_reducible repeat (first|apply Kd.R_alloc|apply Kd.R_drewN|apply Kd.R_drew));exact HO_5.out) hb);have n1_ := Aside0.mk (below_step (by repeat (first|(with_reducible first|exact HB.out|apply below_alloc|apply pw_below_drewN|apply below_drew1)|exact HB.out)) hb);clear HO_5;clear HB;have HO_5 := n0_;have HB := n1_;clear n0_ n1_;(try clear hb);(try clear hb2);(try clear hk);(try clear hi);have p313 : 0 ≤ (x6_2 : Int) := of_decide_eq_true (by first|(with_reducible assumption)|assumption);have q313 : x6_2 < (l0.length : Int) := of_decide_eq_true (by first|(with_reducible assumption)|assumption);obtain ⟨ad313,e313,hx313_0,hx313_1,hx313_2,hx313_3,hx313_4⟩ := at_T27 HR0.out x6_2 p313 q313;obtain rfl : ad311 = ad313 := (by injection e313);replace hx313_0 := (HB.out.cell (World.block_lt_of_cell? w _ hx313_0)).trans hx313_0;replace hx313_1 := (HB.out.cell (World.block_lt_of_cell? w _ hx313_1)).trans hx313_1;replace hx313_2 := (HB.out.cell (World.block_lt_of_cell? w _ hx313_2)).trans hx313_2;replace hx313_3 := (HB.out.cell (World.block_lt_of_cell? w _ hx313_3)).trans hx313_3;replace hx313_4 := (HB.out.cell (World.block_lt_of_cell? w _ hx313_4)).trans hx313_4;replace p313 := eq_true p313;replace q313 := eq_true q313)|((with_reducible refine gate_callee (f := 22) rfl ?_);refine goesL_ (some 35) rfl rfl Try.func22 (by kernel_rfl) rfl #[.slice (some ad311) l0.length c0,.int .i64 a1,.int .i64 ((rd_T27 l0 x6_2).f1.f1)] rfl (by (try simp only [List.map_toArray,List.map_cons,List.map_nil]);first|done|rfl|(simp only [List.length_drop,List.length_take];rfl)) ?_;(with_reducible refine (strakeref18_Best.calls k2 _ _ l0 a1 ((rd_T27 l0 x6_2).f1.f1) t314 _ ?side1 ?side2 A10.out).mono ?_);(case side1 => repeat (first|exact (Kd.C_below HR0.out HB.out)|(with_reducible refine Kd.C_alloc ?_ _)|(with_reducible refine Kd.C_drewN ?_ _)|(with_reducible refine Kd.C_drew ?_)));(case side2 => exact HC0.out);rintro e w23 ⟨rfl,hb⟩;refine ⟨_,rfl,?_⟩;have n0_ := Aside0.mk (Kd.R_below (by (with_reducible repeat (first|apply Kd.R_alloc|apply Kd.R_drewN|apply Kd.R_drew));exact HO_5.out) hb);have n1_ := Aside0.mk (below_step (by repeat (first|(with_reducible first|exact HB.out|apply below_alloc|apply pw_below_drewN|apply below_drew1)|exact HB.out)) hb);clear HO_5;clear HB;have HO_5 := n0_;have HB := n1_;clear n0_ n1_;(try clear hb);(try clear hb2);(try clear hk);(try clear hi)))
            (try (rw [drewN_self w23];generalize hq_ : World.drewN w23 _ = w23;have n0_ : Aside0 (Kd.R (Kd.int .i64) 3 w23 w.heap.size (fun _ => True) u5 x5_2) := ⟨by rw [← hq_];exact (by (with_reducible repeat (first|apply Kd.R_alloc|apply Kd.R_drewN|apply Kd.R_drew));exact HO_5.out)⟩;have n1_ : Aside0 (Below w.heap.size w w23) := ⟨by rw [← hq_];exact (by repeat (first|(with_reducible first|exact HB.out|apply below_alloc|apply pw_below_drewN|apply below_drew1)|exact HB.out))⟩;clear HO_5 HB hq_;have HO_5 := n0_;have HB := n1_;clear n0_ n1_))
            have n0_ := Aside0.mk (Kd.R_drew HO_5.out)
            have n1_ := Aside0.mk (below_drew1 HB.out)
            clear HO_5
            clear HB
            have HO_5 := n0_
            have HB := n1_
            clear n0_ n1_
            have p315 : 0 ≤ (t314 : Int) := of_decide_eq_true (by first | (with_reducible assumption) | assumption)
            have q315 : t314 < (l0.length : Int) := of_decide_eq_true (by first|(with_reducible assumption)|assumption)
            obtain ⟨ad315, e315, hx315_0, hx315_1, hx315_2, hx315_3, hx315_4⟩ := at_T27 HR0.out t314 p315 q315
            have hw315_4 := hx315_4
            have hw315_3 := hx315_3
            have hw315_2 := hx315_2
            have hw315_1 := hx315_1
            have hw315_0 := hx315_0
            obtain rfl : ad311 = ad315 := (by injection e315)
            replace hx315_0 := (HB.out.cell (World.block_lt_of_cell? w _ hx315_0)).trans hx315_0
            replace hx315_1 := (HB.out.cell (World.block_lt_of_cell? w _ hx315_1)).trans hx315_1
            replace hx315_2 := (HB.out.cell (World.block_lt_of_cell? w _ hx315_2)).trans hx315_2
            replace hx315_3 := (HB.out.cell (World.block_lt_of_cell? w _ hx315_3)).trans hx315_3
            replace hx315_4 := (HB.out.cell (World.block_lt_of_cell? w _ hx315_4)).trans hx315_4
            replace p315 := eq_true p315
            replace q315 := eq_true q315
            have p316 : 0 ≤ (x6_2 : Int) := of_decide_eq_true (by first | (with_reducible assumption) | assumption)
            have q316 : x6_2 < (l0.length : Int) := of_decide_eq_true (by first|(with_reducible assumption)|assumption)
            obtain ⟨ad316, e316, hx316_0, hx316_1, hx316_2, hx316_3, hx316_4⟩ := at_T27 HR0.out x6_2 p316 q316
            have hw316_4 := hx316_4
            have hw316_3 := hx316_3
            have hw316_2 := hx316_2
            have hw316_1 := hx316_1
            have hw316_0 := hx316_0
            obtain rfl : ad311 = ad316 := (by injection e316)
            replace hx316_0 := (HB.out.cell (World.block_lt_of_cell? w _ hx316_0)).trans hx316_0
            replace hx316_1 := (HB.out.cell (World.block_lt_of_cell? w _ hx316_1)).trans hx316_1
            replace hx316_2 := (HB.out.cell (World.block_lt_of_cell? w _ hx316_2)).trans hx316_2
            replace hx316_3 := (HB.out.cell (World.block_lt_of_cell? w _ hx316_3)).trans hx316_3
            replace hx316_4 := (HB.out.cell (World.block_lt_of_cell? w _ hx316_4)).trans hx316_4
            replace p316 := eq_true p316
            replace q316 := eq_true q316
            refine start_ (n := 9) (S := fun w' => w'.cell? (ad311.add ((t314).toNat * 5)) = some (.int .i64 ((rd_T27 l0 t314).f0)) ∧ w'.cell? ⟨(ad311.add ((t314).toNat * 5)).block,(ad311.add ((t314).toNat * 5)).off + 1,none⟩ = some (.int .i64 ((rd_T27 l0 t314).f1.f0)) ∧ w'.cell? ⟨(ad311.add ((t314).toNat * 5)).block,(ad311.add ((t314).toNat * 5)).off + 2,none⟩ = some (.int .i64 ((rd_T27 l0 t314).f1.f1)) ∧ w'.cell? ⟨(ad311.add ((t314).toNat * 5)).block,(ad311.add ((t314).toNat * 5)).off + 3,none⟩ = some (.int .i64 ((rd_T27 l0 t314).f1.f2)) ∧ w'.cell? ⟨(ad311.add ((t314).toNat * 5)).block,(ad311.add ((t314).toNat * 5)).off + 4,none⟩ = some (.slice ((rd_T27 l0 t314).f2).a ((rd_T27 l0 t314).f2).n ((rd_T27 l0 t314).f2).c) ∧ w'.cell? (ad311.add ((x6_2).toNat * 5)) = some (.int .i64 ((rd_T27 l0 x6_2).f0)) ∧ w'.cell? ⟨(ad311.add ((x6_2).toNat * 5)).block,(ad311.add ((x6_2).toNat * 5)).off + 1,none⟩ = some (.int .i64 ((rd_T27 l0 x6_2).f1.f0)) ∧ w'.cell? ⟨(ad311.add ((x6_2).toNat * 5)).block,(ad311.add ((x6_2).toNat * 5)).off + 2,none⟩ = some (.int .i64 ((rd_T27 l0 x6_2).f1.f1)) ∧ w'.cell? ⟨(ad311.add ((x6_2).toNat * 5)).block,(ad311.add ((x6_2).toNat * 5)).off + 3,none⟩ = some (.int .i64 ((rd_T27 l0 x6_2).f1.f2)) ∧ w'.cell? ⟨(ad311.add ((x6_2).toNat * 5)).block,(ad311.add ((x6_2).toNat * 5)).off + 4,none⟩ = some (.slice ((rd_T27 l0 x6_2).f2).a ((rd_T27 l0 x6_2).f2).n ((rd_T27 l0 x6_2).f2).c)) (ds := []) #[false,false,false,false,false,false,false,false,false] (by kernel_rfl) rfl rfl ⟨((HB.out.cell (World.block_lt_of_cell? w _ hw315_0)).trans hw315_0),((HB.out.cell (World.block_lt_of_cell? w _ hw315_1)).trans hw315_1),((HB.out.cell (World.block_lt_of_cell? w _ hw315_2)).trans hw315_2),((HB.out.cell (World.block_lt_of_cell? w _ hw315_3)).trans hw315_3),((HB.out.cell (World.block_lt_of_cell? w _ hw315_4)).trans hw315_4),((HB.out.cell (World.block_lt_of_cell? w _ hw316_0)).trans hw316_0),((HB.out.cell (World.block_lt_of_cell? w _ hw316_1)).trans hw316_1),((HB.out.cell (World.block_lt_of_cell? w _ hw316_2)).trans hw316_2),((HB.out.cell (World.block_lt_of_cell? w _ hw316_3)).trans hw316_3),((HB.out.cell (World.block_lt_of_cell? w _ hw316_4)).trans hw316_4)⟩ (fun hHeld => ?_);refine with_tabW strakeref18_Stale.tab9 strakeref18_Stale.bits9 (fun HT_ HW_ => ?_)
            generalize w23.drew = w24 at HO_5 HB hx315_0 hx315_1 hx315_2 hx315_3 hx315_4 hx316_0 hx316_1 hx316_2 hx316_3 hx316_4 hHeld ⊢
            refine pure_ (i := 0) (N := some 36) (v := ?_) (a' := ?_) #[true,false,false,false,false,false,false,false,false] rfl rfl (any_of HT_.out (by kernel_rfl)) (fun _ _ _ h => h) (Or.inl ⟨by rfl,?_⟩) ?_ ?_
            rotate_left
            ·intro w'
             go_simp
             with_reducible rfl
            rotate_left
            ·simp only [Act.put, qa, qb, qc, i64_w, i32_w]
             rfl
            refine pure_ (i := 1) (N := some 37) (v := ?_) (a' := ?_) #[true,true,false,false,false,false,false,false,false] rfl rfl (any_of HT_.out (by kernel_rfl)) (fun _ _ _ h => h) (Or.inl ⟨by rfl,?_⟩) ?_ ?_
            rotate_left
            ·intro w'
             go_simp
             with_reducible rfl
            rotate_left
            ·simp only [Act.put, qa, qb, qc, i64_w, i32_w]
             rfl
            refine pure_ (i := 2) (N := some 38) (v := ?_) (a' := ?_) #[true,true,true,false,false,false,false,false,false] rfl rfl (any_of HT_.out (by kernel_rfl)) (fun _ _ _ h => h) (Or.inl ⟨by rfl,?_⟩) ?_ ?_
            rotate_left
            ·intro w'
             go_simp
             with_reducible rfl
            rotate_left
            ·simp only [Act.put, qa, qb, qc, i64_w, i32_w]
             rfl
            refine pure_ (i := 4) (N := some 40) (v := ?_) (a' := ?_) #[true,true,true,false,true,false,false,false,false] rfl rfl (any_of HT_.out (by kernel_rfl)) (fun _ _ _ h => h) (Or.inl ⟨by rfl,?_⟩) ?_ ?_
            rotate_left
            ·intro w'
             go_simp
             with_reducible rfl
            rotate_left
            ·simp only [Act.put, qa, qb, qc, i64_w, i32_w]
             rfl
            refine pure_ (i := 5) (N := some 41) (v := ?_) (a' := ?_) #[true,true,true,false,true,true,false,false,false] rfl rfl (any_of HT_.out (by kernel_rfl)) (fun _ _ _ h => h) (Or.inl ⟨by rfl,?_⟩) ?_ ?_
            rotate_left
            ·intro w'
             go_simp
             with_reducible rfl
            rotate_left
            ·simp only [Act.put, qa, qb, qc, i64_w, i32_w]
             rfl
            refine pure_ (i := 6) (N := some 42) (v := ?_) (a' := ?_) #[true,true,true,false,true,true,true,false,false] rfl rfl (any_of HT_.out (by kernel_rfl)) (fun _ _ _ h => h) (Or.inl ⟨by rfl,?_⟩) ?_ ?_
            rotate_left
            ·intro w'
             go_simp
             with_reducible rfl
            rotate_left
            ·simp only [Act.put, qa, qb, qc, i64_w, i32_w]
             rfl
            refine take_ (i := 3) (N := some 39) (v := ?_) (a' := ?_) #[true,true,true,true,true,true,true,false,false] rfl rfl (take_ofW HT_.out HW_.out (by kernel_rfl)) (fun _ _ _ h => h) (Or.inl ⟨by rfl,?_⟩) hHeld ?_ ?_
            rotate_left
            ·rintro w' ⟨s0, s1, s2, s3, s4, s5, s6, s7, s8, s9⟩
             go_simp
             with_reducible rfl
            rotate_left
            ·simp only [Act.put, qa, qb, qc, i64_w, i32_w]
             rfl
            refine take_ (i := 7) (N := some 43) (v := ?_) (a' := ?_) #[true,true,true,true,true,true,true,true,false] rfl rfl (take_ofW HT_.out HW_.out (by kernel_rfl)) (fun _ _ _ h => h) (Or.inl ⟨by rfl,?_⟩) hHeld ?_ ?_
            rotate_left
            ·rintro w' ⟨s0, s1, s2, s3, s4, s5, s6, s7, s8, s9⟩
             go_simp
             with_reducible rfl
            rotate_left
            ·simp only [Act.put, qa, qb, qc, i64_w, i32_w]
             rfl
            refine one_ (i := 8) (N := some 44) #[true,true,true,true,true,true,true,true,true] rfl rfl (one_of HT_.out (by kernel_rfl)) (by decide) (fun K hK => ?_)
            refine goes_ Try.func23 (by kernel_rfl) rfl #[.agg #[.int .i64 ((rd_T27 l0 t314).f0),.int .i64 ((rd_T27 l0 t314).f1.f0),.int .i64 ((rd_T27 l0 t314).f1.f1),.int .i64 ((rd_T27 l0 t314).f1.f2),.slice ((rd_T27 l0 t314).f2).a ((rd_T27 l0 t314).f2).n ((rd_T27 l0 t314).f2).c],.agg #[.int .i64 ((rd_T27 l0 x6_2).f0),.int .i64 ((rd_T27 l0 x6_2).f1.f0),.int .i64 ((rd_T27 l0 x6_2).f1.f1),.int .i64 ((rd_T27 l0 x6_2).f1.f2),.slice ((rd_T27 l0 x6_2).f2).a ((rd_T27 l0 x6_2).f2).n ((rd_T27 l0 x6_2).f2).c]] (by rfl) rfl rfl (by (try simp only [List.map_toArray,List.map_cons,List.map_nil]);first|done|rfl|(simp only [List.length_drop,List.length_take];rfl)) ?_
            with_reducible refine (strakeref18_newer.calls ((rd_T27 l0 t314).f0) ((rd_T27 l0 t314).f1.f0) ((rd_T27 l0 t314).f1.f1) ((rd_T27 l0 t314).f1.f2) ((rd_T27 l0 t314).f2) ((rd_T27 l0 x6_2).f0) ((rd_T27 l0 x6_2).f1.f0) ((rd_T27 l0 x6_2).f1.f1) ((rd_T27 l0 x6_2).f1.f2) ((rd_T27 l0 x6_2).f2) false _ A13.out).mono ?_
            rintro e w25 ⟨rfl, hb⟩
            refine ⟨_, rfl, ?_⟩
            have n0_ := Aside0.mk (Kd.R_below (by (with_reducible repeat (first|apply Kd.R_alloc|apply Kd.R_drewN|apply Kd.R_drew));exact HO_5.out) hb)
            have n1_ := Aside0.mk (below_step (by repeat (first|(with_reducible first|exact HB.out|apply below_alloc|apply pw_below_drewN|apply below_drew1)|exact HB.out)) hb)
            clear HO_5
            clear HB
            have HO_5 := n0_
            have HB := n1_
            clear n0_ n1_
            (try clear hb)
            (try clear hb2)
            (try clear hk)
            (try clear hi)
            refine hK.out _ _ ⟨((HB.out.cell (World.block_lt_of_cell? w _ hw315_0)).trans hw315_0),((HB.out.cell (World.block_lt_of_cell? w _ hw315_1)).trans hw315_1),((HB.out.cell (World.block_lt_of_cell? w _ hw315_2)).trans hw315_2),((HB.out.cell (World.block_lt_of_cell? w _ hw315_3)).trans hw315_3),((HB.out.cell (World.block_lt_of_cell? w _ hw315_4)).trans hw315_4),((HB.out.cell (World.block_lt_of_cell? w _ hw316_0)).trans hw316_0),((HB.out.cell (World.block_lt_of_cell? w _ hw316_1)).trans hw316_1),((HB.out.cell (World.block_lt_of_cell? w _ hw316_2)).trans hw316_2),((HB.out.cell (World.block_lt_of_cell? w _ hw316_3)).trans hw316_3),((HB.out.cell (World.block_lt_of_cell? w _ hw316_4)).trans hw316_4)⟩ (fun hHeld => ?_)
            clear hK K
            refine norm_ (a' := ?_) ?_ ?_
            rotate_left
            ·show Act.put _ (some 44) _ = _
             simp only [Act.put, qa, qb, qc, i64_w, i32_w]
             rfl
            refine done_ (done_of HT_.out (by kernel_rfl)) ?_
            try go_wp2
            go_roundg k2
            case measure => have := HJ2.out; have := HK2.out; omega
            case rel => exact ⟨(x5_2),(wrap64 (x6_2 + 1)),(by first|rfl|(simp;done)|(simp [*];done)),H',⟨by have := HJ2.out;have := HK2.out;omega⟩,⟨by (with_reducible repeat (first|apply Kd.R_alloc|apply Kd.R_drewN|apply Kd.R_drew));exact HO_5.out⟩,⟨by repeat (first|(with_reducible first|exact HB.out|apply below_alloc|apply pw_below_drewN|apply below_drew1)|exact HB.out)⟩⟩
          ·rw [if_neg c12] at H
           exact absurd H (by simp)
         ·rw [if_neg c11] at H
          exact absurd H (by simp)
        ·replace c9 := Bool.eq_false_iff.mpr c9
         subst c9
         have H1 : (strakeref18_Stale.l0 k2 l0 a1 x5_2 (wrap64 (x6_2 + 1))) = some r := by rw [if_neg (show ¬ (false = true) by decide)] at H;exact H
         clear H
         have H := H1
         clear H1
         have H' := Aside0.mk H
         clear H
         have p311 : 0 ≤ (x6_2 : Int) := of_decide_eq_true (by first | (with_reducible assumption) | assumption)
         have q311 : x6_2 < (l0.length : Int) := of_decide_eq_true (by first | (with_reducible assumption) | assumption)
         obtain ⟨ad311, e311, hx311_0, hx311_1, hx311_2, hx311_3, hx311_4⟩ := at_T27 HR0.out x6_2 p311 q311
         cases e311
         replace hx311_0 := (HB.out.cell (World.block_lt_of_cell? w _ hx311_0)).trans hx311_0
         replace hx311_1 := (HB.out.cell (World.block_lt_of_cell? w _ hx311_1)).trans hx311_1
         replace hx311_2 := (HB.out.cell (World.block_lt_of_cell? w _ hx311_2)).trans hx311_2
         replace hx311_3 := (HB.out.cell (World.block_lt_of_cell? w _ hx311_3)).trans hx311_3
         replace hx311_4 := (HB.out.cell (World.block_lt_of_cell? w _ hx311_4)).trans hx311_4
         replace p311 := eq_true p311
         replace q311 := eq_true q311
         go_wp2_with (first|((with_reducible refine gate_callee (f := 21) rfl ?_);refine goesL_ (some 25) rfl rfl Try.func21 (by kernel_rfl) rfl #[.agg #[.int .i64 ((rd_T27 l0 x6_2).f0),.int .i64 ((rd_T27 l0 x6_2).f1.f0),.int .i64 ((rd_T27 l0 x6_2).f1.f1),.int .i64 ((rd_T27 l0 x6_2).f1.f2),.slice ((rd_T27 l0 x6_2).f2).a ((rd_T27 l0 x6_2).f2).n ((rd_T27 l0 x6_2).f2).c],.int .i64 a1] rfl (by (try simp only [List.map_toArray,List.map_cons,List.map_nil]);first|done|rfl|(simp only [List.length_drop,List.length_take];rfl)) ?_;(with_reducible refine (strakeref18_counts.calls ((rd_T27 l0 x6_2).f0) ((rd_T27 l0 x6_2).f1.f0) ((rd_T27 l0 x6_2).f1.f1) ((rd_T27 l0 x6_2).f1.f2) ((rd_T27 l0 x6_2).f2) a1 false _ A8.out).mono ?_);rintro e w26 ⟨rfl,hb⟩;refine ⟨_,rfl,?_⟩;have n0_ := Aside0.mk (Kd.R_below (by (with_reducible repeat (first|apply Kd.R_alloc|apply Kd.R_drewN|apply Kd.R_drew));exact HO_5.out) hb);have n1_ := Aside0.mk (below_step (by repeat (first|(with_reducible first|exact HB.out|apply below_alloc|apply pw_below_drewN|apply below_drew1)|exact HB.out)) hb);clear HO_5;clear HB;have HO_5 := n0_;have HB := n1_;clear n0_ n1_;(try clear hb);(try clear hb2);(try clear hk);(try clear hi)))
         go_roundg k2
         case measure => have := HJ2.out; have := HK2.out; omega
         case rel => exact ⟨(x5_2),(wrap64 (x6_2 + 1)),(by first|rfl|(simp;done)|(simp [*];done)),H',⟨by have := HJ2.out;have := HK2.out;omega⟩,⟨by (with_reducible repeat (first|apply Kd.R_alloc|apply Kd.R_drewN|apply Kd.R_drew));exact HO_5.out⟩,⟨by repeat (first|(with_reducible first|exact HB.out|apply below_alloc|apply pw_below_drewN|apply below_drew1)|exact HB.out)⟩⟩
       ·rw [if_neg c7] at H
        exact absurd H (by simp)
      ·rw [if_neg c6] at H
       have c6b0 : decide (x6_2 < (l0.length : Int)) = false := decide_eq_false c6
       clear c6
       obtain rfl := Option.some.inj H
       go_wp2
       go_ret
       exact ⟨_,by first|rfl|(simp [errW_none,errW_some] <;> rfl)|(simp [*,errW_none,errW_some] <;> rfl),by (with_reducible repeat (first|apply Kd.R_alloc|apply Kd.R_drewN|apply Kd.R_drew));exact HO_5.out,by repeat (first|(with_reducible first|exact HB.out|apply below_alloc|apply pw_below_drewN|apply below_drew1)|exact HB.out)⟩


/-! ### strakelaw18_ReplayStale: function 4 -/
def strakelaw18_ReplayStale.f (k : Nat) (l0 : List (S27)) (a1 : Int) : Option (Bool) := (strakelaw18_awake.f).bind fun t322 => (if (l0.length : Int) > 60 then (some t322) else ((replay_Stale.f l0 a1).bind fun t323 => ((strakeref18_Stale.f k l0 a1).bind fun t326 => ((strakeref18_SameInts.f k t323 t326).bind fun t329 => (if t322 = true then (some t329) else (some false))))))
theorem strakelaw18_ReplayStale.mono : ∀ a0 a1 k,LeO (strakelaw18_ReplayStale.f k a0 a1) (strakelaw18_ReplayStale.f (k + 1) a0 a1) := by
 intro a0 a1 k
 unfold strakelaw18_ReplayStale.f
 repeat' first
   | (with_reducible exact strakeref18_SameInts.mono _ _ _)
   | (with_reducible exact strakeref18_Stale.mono _ _ _)
   | (with_reducible exact LeO.refl _)
   | (with_reducible exact LeO.none _)
   | (with_reducible refine LeO.ite ?_ ?_)
   | (with_reducible refine LeO.bind ?_ (fun _ => ?_))
   | exact strakeref18_SameInts.mono _ _ _
   | exact strakeref18_Stale.mono _ _ _
   | exact LeO.none _
   | refine LeO.ite ?_ ?_
   | refine LeO.bind ?_ (fun _ => ?_)
set_option maxHeartbeats 8000000 in
set_option maxRecDepth 100000 in
theorem strakelaw18_ReplayStale.calls (k : Nat) (A0 : Option Addr) (c0 : Nat) (l0 : List (S27)) (a1 : Int) (r : Bool) (w : World) (hr0 : Kd.C k27 w A0 l0.length l0) (hc0 : l0.length ≤ c0) (h : strakelaw18_ReplayStale.f k l0 a1 = some r) :
  Calls Try.prog 4 #[.slice A0 l0.length c0,.int .i64 a1] w fun e w' => e = .returned (.bool r) ∧ Below w.heap.size w w' := by
 have HR0 := Aside0.mk hr0
 have HC0 := Aside0.mk hc0
 clear hr0 hc0
 have HB := Aside0.mk (Below.refl w.heap.size w)
 have H : ((strakelaw18_awake.f).bind fun t322 => (if (l0.length : Int) > 60 then (some t322) else ((replay_Stale.f l0 a1).bind fun t323 => ((strakeref18_Stale.f k l0 a1).bind fun t326 => ((strakeref18_SameInts.f k t323 t326).bind fun t329 => (if t322 = true then (some t329) else (some false))))))) = some r := h
 clear h
 replace H := Option.bind_eq_some_iff.mp H
 obtain ⟨t322, A30, H⟩ := H
 replace H : (if (l0.length : Int) > 60 then (some t322) else ((replay_Stale.f l0 a1).bind fun t323 => ((strakeref18_Stale.f k l0 a1).bind fun t326 => ((strakeref18_SameInts.f k t323 t326).bind fun t329 => (if t322 = true then (some t329) else (some false)))))) = some r := H
 have A3 := Aside0.mk A30
 clear A30
 by_cases c4 : (l0.length : Int) > 60
 ·rw [if_pos c4] at H
  have c4b0 : decide (60 < (l0.length : Int)) = true := decide_eq_true c4
  have c4b1 : decide (60 < l0.length) = true := decide_eq_true (by omega)
  clear c4
  obtain rfl := Option.some.inj H
  go_enter Try.func4, Try.ntmps4
  go_wp2_with (first|((with_reducible refine gate_callee (f := 8) rfl ?_);refine goesL_ (some 7) rfl rfl Try.func8 (by kernel_rfl) rfl #[] rfl (by (try simp only [List.map_toArray,List.map_cons,List.map_nil]);first|done|rfl|(simp only [List.length_drop,List.length_take];rfl)) ?_;(with_reducible refine (strakelaw18_awake.calls  t322 _ A3.out).mono ?_);rintro e w5 ⟨rfl,hb⟩;refine ⟨_,rfl,?_⟩;have n0_ := Aside0.mk (below_step (by repeat (first|(with_reducible first|exact HB.out|apply below_alloc|apply pw_below_drewN|apply below_drew1)|exact HB.out)) hb);clear HB;have HB := n0_;clear n0_;(try clear hb);(try clear hb2);(try clear hk);(try clear hi)))
  go_ret
  exact ⟨by first|rfl|(simp [errW_none,errW_some] <;> rfl)|(simp [*,errW_none,errW_some] <;> rfl),by repeat (first|(with_reducible first|exact HB.out|apply below_alloc|apply pw_below_drewN|apply below_drew1)|exact HB.out)⟩
 ·rw [if_neg c4] at H
  have c4b0 : decide (60 < (l0.length : Int)) = false := decide_eq_false c4
  have c4b1 : decide (60 < l0.length) = false := decide_eq_false (by omega)
  clear c4
  replace H := Option.bind_eq_some_iff.mp H
  obtain ⟨t323, A60, H⟩ := H
  replace H : ((strakeref18_Stale.f k l0 a1).bind fun t326 => ((strakeref18_SameInts.f k t323 t326).bind fun t329 => (if t322 = true then (some t329) else (some false)))) = some r := H
  have A6 := Aside0.mk A60
  clear A60
  replace H := Option.bind_eq_some_iff.mp H
  obtain ⟨t326, A70, H⟩ := H
  replace H : ((strakeref18_SameInts.f k t323 t326).bind fun t329 => (if t322 = true then (some t329) else (some false))) = some r := H
  have A7 := Aside0.mk A70
  clear A70
  replace H := Option.bind_eq_some_iff.mp H
  obtain ⟨t329, A80, H⟩ := H
  replace H : (if t322 = true then (some t329) else (some false)) = some r := H
  have A8 := Aside0.mk A80
  clear A80
  by_cases c9 : t322 = true
  ·subst c9
   have H1 : (some t329) = some r := by rw [if_pos rfl] at H; exact H
   clear H
   have H := H1
   clear H1
   obtain rfl := Option.some.inj H
   go_enter Try.func4, Try.ntmps4
   go_wp2_with (first|((with_reducible refine gate_callee (f := 8) rfl ?_);refine goesL_ (some 7) rfl rfl Try.func8 (by kernel_rfl) rfl #[] rfl (by (try simp only [List.map_toArray,List.map_cons,List.map_nil]);first|done|rfl|(simp only [List.length_drop,List.length_take];rfl)) ?_;(with_reducible refine (strakelaw18_awake.calls  true _ A3.out).mono ?_);rintro e w10 ⟨rfl,hb⟩;refine ⟨_,rfl,?_⟩;have n0_ := Aside0.mk (below_step (by repeat (first|(with_reducible first|exact HB.out|apply below_alloc|apply pw_below_drewN|apply below_drew1)|exact HB.out)) hb);clear HB;have HB := n0_;clear n0_;(try clear hb);(try clear hb2);(try clear hk);(try clear hi))|((with_reducible refine gate_callee (f := 11) rfl ?_);refine goesL_ (some 14) rfl rfl Try.func11 (by kernel_rfl) rfl #[.slice A0 l0.length c0,.int .i64 a1] rfl (by (try simp only [List.map_toArray,List.map_cons,List.map_nil]);first|done|rfl|(simp only [List.length_drop,List.length_take];rfl)) ?_;(with_reducible refine (replay_Stale.calls _ _ l0 a1 t323 _ ?side1 ?side2 A6.out).mono ?_);(case side1 => repeat (first|exact (Kd.C_below HR0.out HB.out)|(with_reducible refine Kd.C_alloc ?_ _)|(with_reducible refine Kd.C_drewN ?_ _)|(with_reducible refine Kd.C_drew ?_)));(case side2 => exact HC0.out);rintro e w11 ⟨v324,rfl,ho0,hb⟩;refine ⟨_,rfl,?_⟩;have n0_ := Aside0.mk (Kd.R_lower ho0 (below_size (by repeat (first|(with_reducible first|exact HB.out|apply below_alloc|apply pw_below_drewN|apply below_drew1)|exact HB.out))));have n1_ := Aside0.mk (below_step (by repeat (first|(with_reducible first|exact HB.out|apply below_alloc|apply pw_below_drewN|apply below_drew1)|exact HB.out)) hb);clear HB;have HO325 := n0_;have HB := n1_;clear n0_ n1_;(try clear hb);(try clear hb2);(try clear hk);(try clear hi);(try clear ho0))|((with_reducible refine gate_callee (f := 12) rfl ?_);refine goesL_ (some 17) rfl rfl Try.func12 (by kernel_rfl) rfl #[.slice A0 l0.length c0,.int .i64 a1] rfl (by (try simp only [List.map_toArray,List.map_cons,List.map_nil]);first|done|rfl|(simp only [List.length_drop,List.length_take];rfl)) ?_;(with_reducible refine (strakeref18_Stale.calls k _ _ l0 a1 t326 _ ?side1 ?side2 A7.out).mono ?_);(case side1 => repeat (first|exact (Kd.C_below HR0.out HB.out)|(with_reducible refine Kd.C_alloc ?_ _)|(with_reducible refine Kd.C_drewN ?_ _)|(with_reducible refine Kd.C_drew ?_)));(case side2 => exact HC0.out);rintro e w12 ⟨v327,rfl,ho0,hb⟩;refine ⟨_,rfl,?_⟩;have n0_ := Aside0.mk (Kd.R_elder' (by (with_reducible repeat (first|apply Kd.R_alloc|apply Kd.R_drewN|apply Kd.R_drew));exact HO325.out) (Kd.R_base ho0) hb);have n1_ := Aside0.mk (Kd.R_lower (Kd.R_new' ho0 (Kd.R_lt (by (with_reducible repeat (first|apply Kd.R_alloc|apply Kd.R_drewN|apply Kd.R_drew));exact HO325.out))) (below_size (by repeat (first|(with_reducible first|exact HB.out|apply below_alloc|apply pw_below_drewN|apply below_drew1)|exact HB.out))));have n2_ := Aside0.mk (below_step (by repeat (first|(with_reducible first|exact HB.out|apply below_alloc|apply pw_below_drewN|apply below_drew1)|exact HB.out)) hb);clear HO325;clear HB;have HO325 := n0_;have HO328 := n1_;have HB := n2_;clear n0_ n1_ n2_;(try clear hb);(try clear hb2);(try clear hk);(try clear hi);(try clear ho0);obtain ⟨Ao13,co13,eo13⟩ := Kd.R_slice HO325.out;subst eo13;obtain ⟨Ao14,co14,eo14⟩ := Kd.R_slice HO328.out;subst eo14)|((with_reducible refine gate_callee (f := 10) rfl ?_);refine goesL_ (some 18) rfl rfl Try.func10 (by kernel_rfl) rfl #[.slice Ao13 t323.length co13,.slice Ao14 t326.length co14] rfl (by (try simp only [List.map_toArray,List.map_cons,List.map_nil]);first|done|rfl|(simp only [List.length_drop,List.length_take];rfl)) ?_;(with_reducible refine (strakeref18_SameInts.calls k _ _ t323 _ _ t326 t329 _ ?side1 ?side2 ?side3 ?side4 A8.out).mono ?_);(case side1 => repeat (first|exact (Kd.R_reads' HO325.out).2.2|(with_reducible refine Kd.C_alloc ?_ _)|(with_reducible refine Kd.C_drewN ?_ _)|(with_reducible refine Kd.C_drew ?_)));(case side2 => exact (Kd.R_reads' HO325.out).2.1);(case side3 => repeat (first|exact (Kd.R_reads' HO328.out).2.2|(with_reducible refine Kd.C_alloc ?_ _)|(with_reducible refine Kd.C_drewN ?_ _)|(with_reducible refine Kd.C_drew ?_)));(case side4 => exact (Kd.R_reads' HO328.out).2.1);rintro e w' ⟨rfl,⟨nd,rfl⟩⟩;refine ⟨_,rfl,?_⟩))
   go_ret
   exact ⟨by first|rfl|(simp [errW_none,errW_some] <;> rfl)|(simp [*,errW_none,errW_some] <;> rfl),by repeat (first|(with_reducible first|exact HB.out|apply below_alloc|apply pw_below_drewN|apply below_drew1)|exact HB.out)⟩
  ·replace c9 := Bool.eq_false_iff.mpr c9
   subst c9
   have H1 : (some false) = some r := by rw [if_neg (show ¬ (false = true) by decide)] at H; exact H
   clear H
   have H := H1
   clear H1
   obtain rfl := Option.some.inj H
   go_enter Try.func4, Try.ntmps4
   go_wp2_with (first|((with_reducible refine gate_callee (f := 8) rfl ?_);refine goesL_ (some 7) rfl rfl Try.func8 (by kernel_rfl) rfl #[] rfl (by (try simp only [List.map_toArray,List.map_cons,List.map_nil]);first|done|rfl|(simp only [List.length_drop,List.length_take];rfl)) ?_;(with_reducible refine (strakelaw18_awake.calls  false _ A3.out).mono ?_);rintro e w15 ⟨rfl,hb⟩;refine ⟨_,rfl,?_⟩;have n0_ := Aside0.mk (below_step (by repeat (first|(with_reducible first|exact HB.out|apply below_alloc|apply pw_below_drewN|apply below_drew1)|exact HB.out)) hb);clear HB;have HB := n0_;clear n0_;(try clear hb);(try clear hb2);(try clear hk);(try clear hi))|((with_reducible refine gate_callee (f := 11) rfl ?_);refine goesL_ (some 14) rfl rfl Try.func11 (by kernel_rfl) rfl #[.slice A0 l0.length c0,.int .i64 a1] rfl (by (try simp only [List.map_toArray,List.map_cons,List.map_nil]);first|done|rfl|(simp only [List.length_drop,List.length_take];rfl)) ?_;(with_reducible refine (replay_Stale.calls _ _ l0 a1 t323 _ ?side1 ?side2 A6.out).mono ?_);(case side1 => repeat (first|exact (Kd.C_below HR0.out HB.out)|(with_reducible refine Kd.C_alloc ?_ _)|(with_reducible refine Kd.C_drewN ?_ _)|(with_reducible refine Kd.C_drew ?_)));(case side2 => exact HC0.out);rintro e w16 ⟨v324,rfl,ho0,hb⟩;refine ⟨_,rfl,?_⟩;have n0_ := Aside0.mk (Kd.R_lower ho0 (below_size (by repeat (first|(with_reducible first|exact HB.out|apply below_alloc|apply pw_below_drewN|apply below_drew1)|exact HB.out))));have n1_ := Aside0.mk (below_step (by repeat (first|(with_reducible first|exact HB.out|apply below_alloc|apply pw_below_drewN|apply below_drew1)|exact HB.out)) hb);clear HB;have HO325 := n0_;have HB := n1_;clear n0_ n1_;(try clear hb);(try clear hb2);(try clear hk);(try clear hi);(try clear ho0))|((with_reducible refine gate_callee (f := 12) rfl ?_);refine goesL_ (some 17) rfl rfl Try.func12 (by kernel_rfl) rfl #[.slice A0 l0.length c0,.int .i64 a1] rfl (by (try simp only [List.map_toArray,List.map_cons,List.map_nil]);first|done|rfl|(simp only [List.length_drop,List.length_take];rfl)) ?_;(with_reducible refine (strakeref18_Stale.calls k _ _ l0 a1 t326 _ ?side1 ?side2 A7.out).mono ?_);(case side1 => repeat (first|exact (Kd.C_below HR0.out HB.out)|(with_reducible refine Kd.C_alloc ?_ _)|(with_reducible refine Kd.C_drewN ?_ _)|(with_reducible refine Kd.C_drew ?_)));(case side2 => exact HC0.out);rintro e w17 ⟨v327,rfl,ho0,hb⟩;refine ⟨_,rfl,?_⟩;have n0_ := Aside0.mk (Kd.R_elder' (by (with_reducible repeat (first|apply Kd.R_alloc|apply Kd.R_drewN|apply Kd.R_drew));exact HO325.out) (Kd.R_base ho0) hb);have n1_ := Aside0.mk (Kd.R_lower (Kd.R_new' ho0 (Kd.R_lt (by (with_reducible repeat (first|apply Kd.R_alloc|apply Kd.R_drewN|apply Kd.R_drew));exact HO325.out))) (below_size (by repeat (first|(with_reducible first|exact HB.out|apply below_alloc|apply pw_below_drewN|apply below_drew1)|exact HB.out))));have n2_ := Aside0.mk (below_step (by repeat (first|(with_reducible first|exact HB.out|apply below_alloc|apply pw_below_drewN|apply below_drew1)|exact HB.out)) hb);clear HO325;clear HB;have HO325 := n0_;have HO328 := n1_;have HB := n2_;clear n0_ n1_ n2_;(try clear hb);(try clear hb2);(try clear hk);(try clear hi);(try clear ho0);obtain ⟨Ao18,co18,eo18⟩ := Kd.R_slice HO325.out;subst eo18;obtain ⟨Ao19,co19,eo19⟩ := Kd.R_slice HO328.out;subst eo19)|((with_reducible refine gate_callee (f := 10) rfl ?_);refine goesL_ (some 18) rfl rfl Try.func10 (by kernel_rfl) rfl #[.slice Ao18 t323.length co18,.slice Ao19 t326.length co19] rfl (by (try simp only [List.map_toArray,List.map_cons,List.map_nil]);first|done|rfl|(simp only [List.length_drop,List.length_take];rfl)) ?_;(with_reducible refine (strakeref18_SameInts.calls k _ _ t323 _ _ t326 t329 _ ?side1 ?side2 ?side3 ?side4 A8.out).mono ?_);(case side1 => repeat (first|exact (Kd.R_reads' HO325.out).2.2|(with_reducible refine Kd.C_alloc ?_ _)|(with_reducible refine Kd.C_drewN ?_ _)|(with_reducible refine Kd.C_drew ?_)));(case side2 => exact (Kd.R_reads' HO325.out).2.1);(case side3 => repeat (first|exact (Kd.R_reads' HO328.out).2.2|(with_reducible refine Kd.C_alloc ?_ _)|(with_reducible refine Kd.C_drewN ?_ _)|(with_reducible refine Kd.C_drew ?_)));(case side4 => exact (Kd.R_reads' HO328.out).2.1);rintro e w' ⟨rfl,⟨nd,rfl⟩⟩;refine ⟨_,rfl,?_⟩))
   go_ret
   exact ⟨by first|rfl|(simp [errW_none,errW_some] <;> rfl)|(simp [*,errW_none,errW_some] <;> rfl),by repeat (first|(with_reducible first|exact HB.out|apply below_alloc|apply pw_below_drewN|apply below_drew1)|exact HB.out)⟩

end Go.Proofs.Ytlheknapgonakaa.X
