-- laid by wip/tools/xprint.py (our own changes over the printer)
import Derived.Test.YthoebkkohdfgeaaX0
namespace Go.Proofs.Ythoebkkohdfgeaa.X
open Go.RowKit Go.Proofs.YthoebkkohdfgeaaW.PrintWords Go.Proofs.YthoebkkohdfgeaaW.PrintLast Go.Proofs.YthoebkkohdfgeaaW.PrintMore
attribute [local go_sem] max2_int min2_int max_two min_two max_three min_three max_four min_four   -- for this text's walks alone
set_option linter.unusedVariables false
set_option linter.unusedSimpArgs false

/-! ### strakeref05_Right: function 40 -/
def strakeref05_Right.f (a0_0 : Int) (a0_1 : Int) (a0_2 : Int) : Option (Bool) := if a0_0 ≥ 1 then (if a0_0 ≤ 4 then (if a0_1 ≥ 0 then (if a0_1 ≤ 2147483647 then (if a0_2 ≥ 0 then (some (decide (a0_2 ≤ 1125899906842624))) else (some false)) else (some false)) else (some false)) else (some false)) else (some false)
set_option maxHeartbeats 8000000 in
set_option maxRecDepth 100000 in
theorem strakeref05_Right.calls (a0_0 : Int) (a0_1 : Int) (a0_2 : Int) (r : Bool) (w : World) (h : strakeref05_Right.f a0_0 a0_1 a0_2 = some r) :
  Calls Try.prog 40 #[.agg #[.int .i64 a0_0,.int .i64 a0_1,.int .i64 a0_2]] w fun e w' => e = .returned (.bool r) ∧ Below w.heap.size w w' := by
 have hu40 := Try.underlying40
 have HB := Aside0.mk (Below.refl w.heap.size w)
 have H : (if a0_0 ≥ 1 then (if a0_0 ≤ 4 then (if a0_1 ≥ 0 then (if a0_1 ≤ 2147483647 then (if a0_2 ≥ 0 then (some (decide (a0_2 ≤ 1125899906842624))) else (some false)) else (some false)) else (some false)) else (some false)) else (some false)) = some r := h
 clear h
 by_cases c2 : a0_0 ≥ 1
 ·rw [if_pos c2] at H
  have c2b0 : decide (1 ≤ a0_0) = true := decide_eq_true c2
  clear c2
  by_cases c3 : a0_0 ≤ 4
  ·rw [if_pos c3] at H
   have c3b0 : decide (a0_0 ≤ 4) = true := decide_eq_true c3
   clear c3
   by_cases c4 : a0_1 ≥ 0
   ·rw [if_pos c4] at H
    have c4b0 : decide (0 ≤ a0_1) = true := decide_eq_true c4
    clear c4
    by_cases c5 : a0_1 ≤ 2147483647
    ·rw [if_pos c5] at H
     have c5b0 : decide (a0_1 ≤ 2147483647) = true := decide_eq_true c5
     clear c5
     by_cases c6 : a0_2 ≥ 0
     ·rw [if_pos c6] at H
      have c6b0 : decide (0 ≤ a0_2) = true := decide_eq_true c6
      clear c6
      obtain rfl := Option.some.inj H
      go_enter Try.func40, Try.ntmps40
      go_wp2_with (first|((with_reducible refine gate_dst (N := 1) rfl ?_);refine box_event ?hg (N := 1) ?hd (cs := #[.int .i64 a0_0,.int .i64 a0_1,.int .i64 a0_2]) (t := 40) ?hr ?_;(case hd => rfl);(case hg => rfl);(case hr => first|(go_simp;done)|(go_simp;rfl));intro gb182 hg w7 hbox hb;have n0_ := Aside0.mk (below_step (by repeat (first|(with_reducible first|exact HB.out|apply below_alloc|apply pw_below_drewN|apply below_drew1)|exact HB.out)) hb);have n1_ := Aside0.mk (hbox);have n2_ := Aside0.mk ((by rw [hg];exact (below_size (by repeat (first|(with_reducible first|exact HB.out|apply below_alloc|apply pw_below_drewN|apply below_drew1)|exact HB.out))) : w.heap.size ≤ gb182));have n3_ := Aside0.mk ((by rw [hg];exact (below_size (by repeat (first|(with_reducible first|exact HB.out|apply below_alloc|apply pw_below_drewN|apply below_drew1)|exact HB.out))) : w.heap.size ≤ gb182));clear HB;have HB := n0_;have BK182 := n1_;have GW182 := n2_;have GE182 := n3_;clear n0_ n1_ n2_ n3_;clear hb hbox hg;have hcz8_0 : w7.cell? ⟨gb182,0,none⟩ = some (.int .i64 a0_0) := (blk_cell BK182.out 0).trans rfl;have hcz8_1 : w7.cell? ⟨gb182,1,none⟩ = some (.int .i64 a0_1) := (blk_cell BK182.out 1).trans rfl;have hcz8_2 : w7.cell? ⟨gb182,2,none⟩ = some (.int .i64 a0_2) := (blk_cell BK182.out 2).trans rfl;have hfz8_0 := blk_frozen BK182.out 0;have hfz8_1 := blk_frozen BK182.out 1;have hfz8_2 := blk_frozen BK182.out 2))
      go_ret
      exact ⟨by first|rfl|(simp [errW_none,errW_some] <;> rfl)|(simp [*,errW_none,errW_some] <;> rfl),by repeat (first|(with_reducible first|exact HB.out|apply below_alloc|apply pw_below_drewN|apply below_drew1|refine below_set ?_ GE182.out)|exact HB.out)⟩
     ·rw [if_neg c6] at H
      have c6b0 : decide (0 ≤ a0_2) = false := decide_eq_false c6
      clear c6
      obtain rfl := Option.some.inj H
      go_enter Try.func40, Try.ntmps40
      go_wp2_with (first|((with_reducible refine gate_dst (N := 1) rfl ?_);refine box_event ?hg (N := 1) ?hd (cs := #[.int .i64 a0_0,.int .i64 a0_1,.int .i64 a0_2]) (t := 40) ?hr ?_;(case hd => rfl);(case hg => rfl);(case hr => first|(go_simp;done)|(go_simp;rfl));intro gb182 hg w9 hbox hb;have n0_ := Aside0.mk (below_step (by repeat (first|(with_reducible first|exact HB.out|apply below_alloc|apply pw_below_drewN|apply below_drew1)|exact HB.out)) hb);have n1_ := Aside0.mk (hbox);have n2_ := Aside0.mk ((by rw [hg];exact (below_size (by repeat (first|(with_reducible first|exact HB.out|apply below_alloc|apply pw_below_drewN|apply below_drew1)|exact HB.out))) : w.heap.size ≤ gb182));have n3_ := Aside0.mk ((by rw [hg];exact (below_size (by repeat (first|(with_reducible first|exact HB.out|apply below_alloc|apply pw_below_drewN|apply below_drew1)|exact HB.out))) : w.heap.size ≤ gb182));clear HB;have HB := n0_;have BK182 := n1_;have GW182 := n2_;have GE182 := n3_;clear n0_ n1_ n2_ n3_;clear hb hbox hg;have hcz10_0 : w9.cell? ⟨gb182,0,none⟩ = some (.int .i64 a0_0) := (blk_cell BK182.out 0).trans rfl;have hcz10_1 : w9.cell? ⟨gb182,1,none⟩ = some (.int .i64 a0_1) := (blk_cell BK182.out 1).trans rfl;have hcz10_2 : w9.cell? ⟨gb182,2,none⟩ = some (.int .i64 a0_2) := (blk_cell BK182.out 2).trans rfl;have hfz10_0 := blk_frozen BK182.out 0;have hfz10_1 := blk_frozen BK182.out 1;have hfz10_2 := blk_frozen BK182.out 2))
      go_ret
      exact ⟨by first|rfl|(simp [errW_none,errW_some] <;> rfl)|(simp [*,errW_none,errW_some] <;> rfl),by repeat (first|(with_reducible first|exact HB.out|apply below_alloc|apply pw_below_drewN|apply below_drew1|refine below_set ?_ GE182.out)|exact HB.out)⟩
    ·rw [if_neg c5] at H
     have c5b0 : decide (a0_1 ≤ 2147483647) = false := decide_eq_false c5
     clear c5
     obtain rfl := Option.some.inj H
     go_enter Try.func40, Try.ntmps40
     go_wp2_with (first|((with_reducible refine gate_dst (N := 1) rfl ?_);refine box_event ?hg (N := 1) ?hd (cs := #[.int .i64 a0_0,.int .i64 a0_1,.int .i64 a0_2]) (t := 40) ?hr ?_;(case hd => rfl);(case hg => rfl);(case hr => first|(go_simp;done)|(go_simp;rfl));intro gb182 hg w11 hbox hb;have n0_ := Aside0.mk (below_step (by repeat (first|(with_reducible first|exact HB.out|apply below_alloc|apply pw_below_drewN|apply below_drew1)|exact HB.out)) hb);have n1_ := Aside0.mk (hbox);have n2_ := Aside0.mk ((by rw [hg];exact (below_size (by repeat (first|(with_reducible first|exact HB.out|apply below_alloc|apply pw_below_drewN|apply below_drew1)|exact HB.out))) : w.heap.size ≤ gb182));have n3_ := Aside0.mk ((by rw [hg];exact (below_size (by repeat (first|(with_reducible first|exact HB.out|apply below_alloc|apply pw_below_drewN|apply below_drew1)|exact HB.out))) : w.heap.size ≤ gb182));clear HB;have HB := n0_;have BK182 := n1_;have GW182 := n2_;have GE182 := n3_;clear n0_ n1_ n2_ n3_;clear hb hbox hg;have hcz12_0 : w11.cell? ⟨gb182,0,none⟩ = some (.int .i64 a0_0) := (blk_cell BK182.out 0).trans rfl;have hcz12_1 : w11.cell? ⟨gb182,1,none⟩ = some (.int .i64 a0_1) := (blk_cell BK182.out 1).trans rfl;have hcz12_2 : w11.cell? ⟨gb182,2,none⟩ = some (.int .i64 a0_2) := (blk_cell BK182.out 2).trans rfl;have hfz12_0 := blk_frozen BK182.out 0;have hfz12_1 := blk_frozen BK182.out 1;have hfz12_2 := blk_frozen BK182.out 2))
     go_ret
     exact ⟨by first|rfl|(simp [errW_none,errW_some] <;> rfl)|(simp [*,errW_none,errW_some] <;> rfl),by repeat (first|(with_reducible first|exact HB.out|apply below_alloc|apply pw_below_drewN|apply below_drew1|refine below_set ?_ GE182.out)|exact HB.out)⟩
   ·rw [if_neg c4] at H
    have c4b0 : decide (0 ≤ a0_1) = false := decide_eq_false c4
    clear c4
    obtain rfl := Option.some.inj H
    go_enter Try.func40, Try.ntmps40
    go_wp2_with (first|((with_reducible refine gate_dst (N := 1) rfl ?_);refine box_event ?hg (N := 1) ?hd (cs := #[.int .i64 a0_0,.int .i64 a0_1,.int .i64 a0_2]) (t := 40) ?hr ?_;(case hd => rfl);(case hg => rfl);(case hr => first|(go_simp;done)|(go_simp;rfl));intro gb182 hg w13 hbox hb;have n0_ := Aside0.mk (below_step (by repeat (first|(with_reducible first|exact HB.out|apply below_alloc|apply pw_below_drewN|apply below_drew1)|exact HB.out)) hb);have n1_ := Aside0.mk (hbox);have n2_ := Aside0.mk ((by rw [hg];exact (below_size (by repeat (first|(with_reducible first|exact HB.out|apply below_alloc|apply pw_below_drewN|apply below_drew1)|exact HB.out))) : w.heap.size ≤ gb182));have n3_ := Aside0.mk ((by rw [hg];exact (below_size (by repeat (first|(with_reducible first|exact HB.out|apply below_alloc|apply pw_below_drewN|apply below_drew1)|exact HB.out))) : w.heap.size ≤ gb182));clear HB;have HB := n0_;have BK182 := n1_;have GW182 := n2_;have GE182 := n3_;clear n0_ n1_ n2_ n3_;clear hb hbox hg;have hcz14_0 : w13.cell? ⟨gb182,0,none⟩ = some (.int .i64 a0_0) := (blk_cell BK182.out 0).trans rfl;have hcz14_1 : w13.cell? ⟨gb182,1,none⟩ = some (.int .i64 a0_1) := (blk_cell BK182.out 1).trans rfl;have hcz14_2 : w13.cell? ⟨gb182,2,none⟩ = some (.int .i64 a0_2) := (blk_cell BK182.out 2).trans rfl;have hfz14_0 := blk_frozen BK182.out 0;have hfz14_1 := blk_frozen BK182.out 1;have hfz14_2 := blk_frozen BK182.out 2))
    go_ret
    exact ⟨by first|rfl|(simp [errW_none,errW_some] <;> rfl)|(simp [*,errW_none,errW_some] <;> rfl),by repeat (first|(with_reducible first|exact HB.out|apply below_alloc|apply pw_below_drewN|apply below_drew1|refine below_set ?_ GE182.out)|exact HB.out)⟩
  ·rw [if_neg c3] at H
   have c3b0 : decide (a0_0 ≤ 4) = false := decide_eq_false c3
   clear c3
   obtain rfl := Option.some.inj H
   go_enter Try.func40, Try.ntmps40
   go_wp2_with (first|((with_reducible refine gate_dst (N := 1) rfl ?_);refine box_event ?hg (N := 1) ?hd (cs := #[.int .i64 a0_0,.int .i64 a0_1,.int .i64 a0_2]) (t := 40) ?hr ?_;(case hd => rfl);(case hg => rfl);(case hr => first|(go_simp;done)|(go_simp;rfl));intro gb182 hg w15 hbox hb;have n0_ := Aside0.mk (below_step (by repeat (first|(with_reducible first|exact HB.out|apply below_alloc|apply pw_below_drewN|apply below_drew1)|exact HB.out)) hb);have n1_ := Aside0.mk (hbox);have n2_ := Aside0.mk ((by rw [hg];exact (below_size (by repeat (first|(with_reducible first|exact HB.out|apply below_alloc|apply pw_below_drewN|apply below_drew1)|exact HB.out))) : w.heap.size ≤ gb182));have n3_ := Aside0.mk ((by rw [hg];exact (below_size (by repeat (first|(with_reducible first|exact HB.out|apply below_alloc|apply pw_below_drewN|apply below_drew1)|exact HB.out))) : w.heap.size ≤ gb182));clear HB;have HB := n0_;have BK182 := n1_;have GW182 := n2_;have GE182 := n3_;clear n0_ n1_ n2_ n3_;clear hb hbox hg;have hcz16_0 : w15.cell? ⟨gb182,0,none⟩ = some (.int .i64 a0_0) := (blk_cell BK182.out 0).trans rfl;have hcz16_1 : w15.cell? ⟨gb182,1,none⟩ = some (.int .i64 a0_1) := (blk_cell BK182.out 1).trans rfl;have hcz16_2 : w15.cell? ⟨gb182,2,none⟩ = some (.int .i64 a0_2) := (blk_cell BK182.out 2).trans rfl;have hfz16_0 := blk_frozen BK182.out 0;have hfz16_1 := blk_frozen BK182.out 1;have hfz16_2 := blk_frozen BK182.out 2))
   go_ret
   exact ⟨by first|rfl|(simp [errW_none,errW_some] <;> rfl)|(simp [*,errW_none,errW_some] <;> rfl),by repeat (first|(with_reducible first|exact HB.out|apply below_alloc|apply pw_below_drewN|apply below_drew1|refine below_set ?_ GE182.out)|exact HB.out)⟩
 ·rw [if_neg c2] at H
  have c2b0 : decide (1 ≤ a0_0) = false := decide_eq_false c2
  clear c2
  obtain rfl := Option.some.inj H
  go_enter Try.func40, Try.ntmps40
  go_wp2_with (first|((with_reducible refine gate_dst (N := 1) rfl ?_);refine box_event ?hg (N := 1) ?hd (cs := #[.int .i64 a0_0,.int .i64 a0_1,.int .i64 a0_2]) (t := 40) ?hr ?_;(case hd => rfl);(case hg => rfl);(case hr => first|(go_simp;done)|(go_simp;rfl));intro gb182 hg w17 hbox hb;have n0_ := Aside0.mk (below_step (by repeat (first|(with_reducible first|exact HB.out|apply below_alloc|apply pw_below_drewN|apply below_drew1)|exact HB.out)) hb);have n1_ := Aside0.mk (hbox);have n2_ := Aside0.mk ((by rw [hg];exact (below_size (by repeat (first|(with_reducible first|exact HB.out|apply below_alloc|apply pw_below_drewN|apply below_drew1)|exact HB.out))) : w.heap.size ≤ gb182));have n3_ := Aside0.mk ((by rw [hg];exact (below_size (by repeat (first|(with_reducible first|exact HB.out|apply below_alloc|apply pw_below_drewN|apply below_drew1)|exact HB.out))) : w.heap.size ≤ gb182));clear HB;have HB := n0_;have BK182 := n1_;have GW182 := n2_;have GE182 := n3_;clear n0_ n1_ n2_ n3_;clear hb hbox hg;have hcz18_0 : w17.cell? ⟨gb182,0,none⟩ = some (.int .i64 a0_0) := (blk_cell BK182.out 0).trans rfl;have hcz18_1 : w17.cell? ⟨gb182,1,none⟩ = some (.int .i64 a0_1) := (blk_cell BK182.out 1).trans rfl;have hcz18_2 : w17.cell? ⟨gb182,2,none⟩ = some (.int .i64 a0_2) := (blk_cell BK182.out 2).trans rfl;have hfz18_0 := blk_frozen BK182.out 0;have hfz18_1 := blk_frozen BK182.out 1;have hfz18_2 := blk_frozen BK182.out 2))
  go_ret
  exact ⟨by first|rfl|(simp [errW_none,errW_some] <;> rfl)|(simp [*,errW_none,errW_some] <;> rfl),by repeat (first|(with_reducible first|exact HB.out|apply below_alloc|apply pw_below_drewN|apply below_drew1|refine below_set ?_ GE182.out)|exact HB.out)⟩


/-! ### strakeref02_Fixed: function 43 -/
def strakeref02_Fixed.l0 : Nat → Int → List Int → Int → Option (List Int)
 | 0, _, _, _ => none
 | k + 1,x0,x3,x4 => if x4 < 4 then (if x3.length < 140737488355328 then (strakeref02_Fixed.l0 k ((Int.tdiv x0 256) % 4294967296) (x3 ++ [(Int.tmod x0 256) % 256]) (wrap64 (x4 + 1))) else (none)) else (some x3)
def strakeref02_Fixed.f (k : Nat) (a0 : Int) : Option (List Int) := strakeref02_Fixed.l0 k a0 ([] : List Int) 0
theorem strakeref02_Fixed.mono_l : ∀ k,(∀ y0 y1 y2,LeO (strakeref02_Fixed.l0 k y0 y1 y2) (strakeref02_Fixed.l0 (k + 1) y0 y1 y2))
 | 0 => fun _ _ _ r h => by simp [strakeref02_Fixed.l0] at h
 | k + 1 => by
  have ih0 := strakeref02_Fixed.mono_l k
  ·intro y0 y1 y2
   unfold strakeref02_Fixed.l0
   repeat' first
   | (with_reducible exact ih0 _ _ _)
   | (with_reducible exact LeO.refl _)
   | (with_reducible exact LeO.none _)
   | (with_reducible refine LeO.ite ?_ ?_)
   | (with_reducible refine LeO.bind ?_ (fun _ => ?_))
   | exact ih0 _ _ _
   | exact LeO.none _
   | refine LeO.ite ?_ ?_
   | refine LeO.bind ?_ (fun _ => ?_)
theorem strakeref02_Fixed.mono : ∀ a0 k, LeO (strakeref02_Fixed.f k a0) (strakeref02_Fixed.f (k + 1) a0) := by
 intro a0 k
 have ih0 := strakeref02_Fixed.mono_l k
 unfold strakeref02_Fixed.f
 repeat' first
   | (with_reducible exact ih0 _ _ _)
   | (with_reducible exact LeO.refl _)
   | (with_reducible exact LeO.none _)
   | (with_reducible refine LeO.ite ?_ ?_)
   | (with_reducible refine LeO.bind ?_ (fun _ => ?_))
   | exact ih0 _ _ _
   | exact LeO.none _
   | refine LeO.ite ?_ ?_
   | refine LeO.bind ?_ (fun _ => ?_)
set_option maxHeartbeats 8000000 in
set_option maxRecDepth 100000 in
theorem strakeref02_Fixed.calls (k : Nat) (a0 : Int) (r : List Int) (w : World) (h : strakeref02_Fixed.f k a0 = some r) :
  Calls Try.prog 43 #[.int .u32 a0] w fun e w' => ∃ v0_ : Value,e = .returned (v0_) ∧ Kd.R (Kd.int .u8) 5 w' w.heap.size (fun _ => True) v0_ r ∧ Below w.heap.size w w' := by
 have HB := Aside0.mk (Below.refl w.heap.size w)
 have H : (strakeref02_Fixed.l0 k a0 ([] : List Int) 0) = some r := h
 clear h
 have H' := Aside0.mk H
 clear H
 go_enter Try.func43, Try.ntmps43
 go_wp2
 go_loopg [0,3,4] k (fun kq v0 v3 v4 w' => ∃ (x0_1 : Int) (x3_1 : List Int) (x4_1 : Int),v0 = .int .u32 x0_1 ∧ v4 = .int .i64 x4_1 ∧ Aside0 (strakeref02_Fixed.l0 kq x0_1 x3_1 x4_1 = some r) ∧ Aside0 (kq ≤ k) ∧ Aside0 (Kd.R (Kd.int .u8) 5 w' w.heap.size (fun _ => True) v3 x3_1) ∧ Aside0 (Below w.heap.size w w'))
 case atStart => exact ⟨(a0),(([] : List Int)),(0),(by first|rfl|(simp;done)|(simp [*];done)),(by first|rfl|(simp;done)|(simp [*];done)),H',⟨Nat.le_refl _⟩,⟨by first|exact Kd.R_nil _ _ _ _ _|exact Kd.N_nil _ _ _ _ _|exact Kd.V_nil _ _ _ _ _|exact Kd.Q_nil _ _ _ _ _|exact Kd.S_nil _ _ _ _ _⟩,⟨by repeat (first|(with_reducible first|exact HB.out|apply below_alloc|apply pw_below_drewN|apply below_drew1)|exact HB.out)⟩⟩
 case round =>
  clear H'
  obtain ⟨x0_1, x3_1, x4_1, rfl, rfl, HA, HK1, HO_3, HB⟩ := hrel
  cases gk with
  | zero => exact absurd HA.out (by simp [strakeref02_Fixed.l0])
  | succ k1 =>
   have H := HA.out
   clear HA
   simp only [strakeref02_Fixed.l0] at H
   by_cases c2 : x4_1 < 4
   ·rw [if_pos c2] at H
    have c2b0 : decide (x4_1 < 4) = true := decide_eq_true c2
    clear c2
    by_cases c3 : x3_1.length < 140737488355328
    ·rw [if_pos c3] at H
     have LMc3 := Aside0.mk c3
     clear c3
     obtain ⟨y183, hy183⟩ : ∃ y_ : List Int, y_ = (x3_1 ++ [(Int.tmod x0_1 256) % 256]) := ⟨_, rfl⟩
     replace H : (strakeref02_Fixed.l0 k1 ((Int.tdiv x0_1 256) % 4294967296) y183 (wrap64 (x4_1 + 1))) = some r := by first|(rw [hy183];with_reducible exact H)|(have H2_ := (Option.bind_some _ _).symm.trans H;rw [hy183];with_reducible exact H2_)|(have H2_ := (Option.bind_some _ _).symm.trans H;with_reducible exact H2_)|with_reducible exact H|(rw [hy183];exact H)|exact H
     have Ny183 := Aside0.mk hy183
     clear hy183
     have H' := Aside0.mk H
     clear H
     go_wp2_with (first|((with_reducible refine gate_builtin (b := .append) (xs := #[.tmp 9,.tmp 13]) rfl ?_);at_builtin;refine Kd.R_append (Kd.int .u8) (w0 := w) w.heap.size rfl (.tmp 9) (.tmp 13) 36 5 (.int .u8 0) 1 rfl Try.underlying36 info5 rfl (by decide) (by omega) u3 x3_1 ((Int.tmod x0_1 256) % 256) [.int .u8 ((Int.tmod x0_1 256) % 256)] (fun _ => True) (fun _ => False) rfl rfl ?aP (fun _ hk => hk.elim) ?aF ?aO ?aB ?aS ?aL ?_;(case aP => exact rfl);(case aB => exact (by repeat (first|(with_reducible first|exact HB.out|apply below_alloc|apply pw_below_drewN|apply below_drew1)|exact HB.out)));(case aF => exact (fun _ _ => trivial));(case aO => exact (by (with_reducible repeat (first|apply Kd.R_alloc|apply Kd.R_drewN|apply Kd.R_drew));exact HO_3.out));(case aS => exact (below_size (by repeat (first|(with_reducible first|exact HB.out|apply below_alloc|apply pw_below_drewN|apply below_drew1)|exact HB.out))));(case aL => have := LMc3.out;omega);intro v184 w4 ho hb hg hat;rw [← Ny183.out] at ho;have n0_ := Aside0.mk (hb);have n1_ := Aside0.mk (ho);clear HB;clear HO_3;have HB := n0_;have HO185 := n1_;clear n0_ n1_;clear ho hb hg hat))
     go_roundg k1
     case measure => have := HK1.out; omega
     case rel => exact ⟨((Int.tdiv x0_1 256) % 4294967296),(y183),(wrap64 (x4_1 + 1)),(by first|rfl|(simp;done)|(simp [*];done)),(by first|rfl|(simp;done)|(simp [*];done)),H',⟨by have := HK1.out;omega⟩,⟨by (with_reducible repeat (first|apply Kd.R_alloc|apply Kd.R_drewN|apply Kd.R_drew));exact HO185.out⟩,⟨by repeat (first|(with_reducible first|exact HB.out|apply below_alloc|apply pw_below_drewN|apply below_drew1)|exact HB.out)⟩⟩
    ·rw [if_neg c3] at H
     exact absurd H (by simp)
   ·rw [if_neg c2] at H
    have c2b0 : decide (x4_1 < 4) = false := decide_eq_false c2
    clear c2
    obtain rfl := Option.some.inj H
    go_wp2
    go_ret
    exact ⟨_,by first|rfl|(simp [errW_none,errW_some] <;> rfl)|(simp [*,errW_none,errW_some] <;> rfl),by (with_reducible repeat (first|apply Kd.R_alloc|apply Kd.R_drewN|apply Kd.R_drew));exact HO_3.out,by repeat (first|(with_reducible first|exact HB.out|apply below_alloc|apply pw_below_drewN|apply below_drew1)|exact HB.out)⟩


/-! ### strakeref05_front: function 41 -/
def strakeref05_front.f (k : Nat) (a0_0 : Int) (a0_1 : Int) (a0_2 : Int) : Option (List Int) := (some (([(a0_0) % 256] : List Int) : List Int)).bind fun y187 => ((strakeref02_Fixed.f k ((a0_1) % 4294967296)).bind fun t190 => (if y187.length + t190.length < 140737488355328 then ((some (y187 ++ t190 : List Int)).bind fun y193 => ((strakeref02_Fixed.f k ((Int.tmod a0_2 4294967296) % 4294967296)).bind fun t196 => (if y193.length + t196.length < 140737488355328 then ((some (y193 ++ t196 : List Int)).bind fun y199 => ((strakeref02_Fixed.f k ((wrap64 (Int.tdiv a0_2 4294967296)) % 4294967296)).bind fun t202 => (if y199.length + t202.length < 140737488355328 then (some (y199 ++ t202)) else (none)))) else (none)))) else (none)))
theorem strakeref05_front.mono : ∀ a0 a1 a2 k,LeO (strakeref05_front.f k a0 a1 a2) (strakeref05_front.f (k + 1) a0 a1 a2) := by
 intro a0 a1 a2 k
 unfold strakeref05_front.f
 repeat' first
   | (with_reducible exact strakeref02_Fixed.mono _ _)
   | (with_reducible exact LeO.refl _)
   | (with_reducible exact LeO.none _)
   | (with_reducible refine LeO.ite ?_ ?_)
   | (with_reducible refine LeO.bind ?_ (fun _ => ?_))
   | exact strakeref02_Fixed.mono _ _
   | exact LeO.none _
   | refine LeO.ite ?_ ?_
   | refine LeO.bind ?_ (fun _ => ?_)
def strakeref05_front.T1 : Bool × List (List Nat × List Nat) := (true,[([],[]),([0],[0]),([1],[1]),([2],[2]),([],[]),([4],[4]),([5],[5]),([6],[6]),([3,7,7],[3,7]),([8,8,0,1,2,3,4,5,6,7,8],[8])])
def strakeref05_front.B1 : List Nat := [0, 1, 3, 7, 0, 16, 48, 112, 255, 511]
theorem strakeref05_front.tab1 : rtab .any (opsOf Try.f41 1) = strakeref05_front.T1 := by kernel_rfl
theorem strakeref05_front.bits1 : waitsOk strakeref05_front.T1.2 strakeref05_front.B1 = true := by kernel_rfl
set_option maxHeartbeats 8000000 in
set_option maxRecDepth 100000 in
theorem strakeref05_front.calls (k : Nat) (a0_0 : Int) (a0_1 : Int) (a0_2 : Int) (r : List Int) (w : World) (h : strakeref05_front.f k a0_0 a0_1 a0_2 = some r) :
  Calls Try.prog 41 #[.agg #[.int .i64 a0_0,.int .i64 a0_1,.int .i64 a0_2]] w fun e w' => ∃ v0_ : Value,e = .returned (v0_) ∧ Kd.R (Kd.int .u8) 5 w' w.heap.size (fun _ => True) v0_ r ∧ Below w.heap.size w w' := by
 have hu40 := Try.underlying40
 have HB := Aside0.mk (Below.refl w.heap.size w)
 have H : ((some (([(a0_0) % 256] : List Int) : List Int)).bind fun y187 => ((strakeref02_Fixed.f k ((a0_1) % 4294967296)).bind fun t190 => (if y187.length + t190.length < 140737488355328 then ((some (y187 ++ t190 : List Int)).bind fun y193 => ((strakeref02_Fixed.f k ((Int.tmod a0_2 4294967296) % 4294967296)).bind fun t196 => (if y193.length + t196.length < 140737488355328 then ((some (y193 ++ t196 : List Int)).bind fun y199 => ((strakeref02_Fixed.f k ((wrap64 (Int.tdiv a0_2 4294967296)) % 4294967296)).bind fun t202 => (if y199.length + t202.length < 140737488355328 then (some (y199 ++ t202)) else (none)))) else (none)))) else (none)))) = some r := h
 clear h
 obtain ⟨y187, hy187⟩ : ∃ y_ : List Int, y_ = (([(a0_0) % 256] : List Int)) := ⟨_, rfl⟩
 replace H : ((strakeref02_Fixed.f k ((a0_1) % 4294967296)).bind fun t190 => (if y187.length + t190.length < 140737488355328 then ((some (y187 ++ t190 : List Int)).bind fun y193 => ((strakeref02_Fixed.f k ((Int.tmod a0_2 4294967296) % 4294967296)).bind fun t196 => (if y193.length + t196.length < 140737488355328 then ((some (y193 ++ t196 : List Int)).bind fun y199 => ((strakeref02_Fixed.f k ((wrap64 (Int.tdiv a0_2 4294967296)) % 4294967296)).bind fun t202 => (if y199.length + t202.length < 140737488355328 then (some (y199 ++ t202)) else (none)))) else (none)))) else (none))) = some r := by first|(rw [hy187];with_reducible exact H)|(have H2_ := (Option.bind_some _ _).symm.trans H;rw [hy187];with_reducible exact H2_)|(have H2_ := (Option.bind_some _ _).symm.trans H;with_reducible exact H2_)|with_reducible exact H|(rw [hy187];exact H)|exact H
 have Ny187 := Aside0.mk hy187
 clear hy187
 replace H := Option.bind_eq_some_iff.mp H
 obtain ⟨t190, A20, H⟩ := H
 replace H : (if y187.length + t190.length < 140737488355328 then ((some (y187 ++ t190 : List Int)).bind fun y193 => ((strakeref02_Fixed.f k ((Int.tmod a0_2 4294967296) % 4294967296)).bind fun t196 => (if y193.length + t196.length < 140737488355328 then ((some (y193 ++ t196 : List Int)).bind fun y199 => ((strakeref02_Fixed.f k ((wrap64 (Int.tdiv a0_2 4294967296)) % 4294967296)).bind fun t202 => (if y199.length + t202.length < 140737488355328 then (some (y199 ++ t202)) else (none)))) else (none)))) else (none)) = some r := H
 have A2 := Aside0.mk A20
 clear A20
 by_cases c3 : y187.length + t190.length < 140737488355328
 ·rw [if_pos c3] at H
  have LMc3 := Aside0.mk c3
  clear c3
  obtain ⟨y193, hy193⟩ : ∃ y_ : List Int, y_ = (y187 ++ t190) := ⟨_, rfl⟩
  replace H : ((strakeref02_Fixed.f k ((Int.tmod a0_2 4294967296) % 4294967296)).bind fun t196 => (if y193.length + t196.length < 140737488355328 then ((some (y193 ++ t196 : List Int)).bind fun y199 => ((strakeref02_Fixed.f k ((wrap64 (Int.tdiv a0_2 4294967296)) % 4294967296)).bind fun t202 => (if y199.length + t202.length < 140737488355328 then (some (y199 ++ t202)) else (none)))) else (none))) = some r := by first|(rw [hy193];with_reducible exact H)|(have H2_ := (Option.bind_some _ _).symm.trans H;rw [hy193];with_reducible exact H2_)|(have H2_ := (Option.bind_some _ _).symm.trans H;with_reducible exact H2_)|with_reducible exact H|(rw [hy193];exact H)|exact H
  have Ny193 := Aside0.mk hy193
  clear hy193
  replace H := Option.bind_eq_some_iff.mp H
  obtain ⟨t196, A40, H⟩ := H
  replace H : (if y193.length + t196.length < 140737488355328 then ((some (y193 ++ t196 : List Int)).bind fun y199 => ((strakeref02_Fixed.f k ((wrap64 (Int.tdiv a0_2 4294967296)) % 4294967296)).bind fun t202 => (if y199.length + t202.length < 140737488355328 then (some (y199 ++ t202)) else (none)))) else (none)) = some r := H
  have A4 := Aside0.mk A40
  clear A40
  by_cases c5 : y193.length + t196.length < 140737488355328
  ·rw [if_pos c5] at H
   have LMc5 := Aside0.mk c5
   clear c5
   obtain ⟨y199, hy199⟩ : ∃ y_ : List Int, y_ = (y193 ++ t196) := ⟨_, rfl⟩
   replace H : ((strakeref02_Fixed.f k ((wrap64 (Int.tdiv a0_2 4294967296)) % 4294967296)).bind fun t202 => (if y199.length + t202.length < 140737488355328 then (some (y199 ++ t202)) else (none))) = some r := by first|(rw [hy199];with_reducible exact H)|(have H2_ := (Option.bind_some _ _).symm.trans H;rw [hy199];with_reducible exact H2_)|(have H2_ := (Option.bind_some _ _).symm.trans H;with_reducible exact H2_)|with_reducible exact H|(rw [hy199];exact H)|exact H
   have Ny199 := Aside0.mk hy199
   clear hy199
   replace H := Option.bind_eq_some_iff.mp H
   obtain ⟨t202, A60, H⟩ := H
   replace H : (if y199.length + t202.length < 140737488355328 then (some (y199 ++ t202)) else (none)) = some r := H
   have A6 := Aside0.mk A60
   clear A60
   by_cases c7 : y199.length + t202.length < 140737488355328
   ·rw [if_pos c7] at H
    have LMc7 := Aside0.mk c7
    clear c7
    obtain ⟨y205, hy205⟩ : ∃ y_ : List Int, y_ = (y199 ++ t202) := ⟨_, rfl⟩
    replace H : (some y205) = some r := by first|(rw [hy205];with_reducible exact H)|(have H2_ := (Option.bind_some _ _).symm.trans H;rw [hy205];with_reducible exact H2_)|(have H2_ := (Option.bind_some _ _).symm.trans H;with_reducible exact H2_)|with_reducible exact H|(rw [hy205];exact H)|exact H
    have Ny205 := Aside0.mk hy205
    clear hy205
    obtain rfl := Option.some.inj H
    go_enter Try.func41, Try.ntmps41
    try go_wp2_with (first|((with_reducible refine gate_dst (N := 1) rfl ?_);refine box_event ?hg (N := 1) ?hd (cs := #[.int .i64 a0_0,.int .i64 a0_1,.int .i64 a0_2]) (t := 40) ?hr ?_;(case hd => rfl);(case hg => rfl);(case hr => first|(go_simp;done)|(go_simp;rfl));intro gb186 hg w8 hbox hb;have n0_ := Aside0.mk (below_step (by repeat (first|(with_reducible first|exact HB.out|apply below_alloc|apply pw_below_drewN|apply below_drew1)|exact HB.out)) hb);have n1_ := Aside0.mk (hbox);have n2_ := Aside0.mk ((by rw [hg];exact (below_size (by repeat (first|(with_reducible first|exact HB.out|apply below_alloc|apply pw_below_drewN|apply below_drew1)|exact HB.out))) : w.heap.size ≤ gb186));have n3_ := Aside0.mk ((by rw [hg];exact (below_size (by repeat (first|(with_reducible first|exact HB.out|apply below_alloc|apply pw_below_drewN|apply below_drew1)|exact HB.out))) : w.heap.size ≤ gb186));clear HB;have HB := n0_;have BK186 := n1_;have GW186 := n2_;have GE186 := n3_;clear n0_ n1_ n2_ n3_;clear hb hbox hg))
    (try (rw [drewN_self w8];generalize hq_ : World.drewN w8 _ = w8;have n0_ : Aside0 (w8.heap[gb186]? = some (.cells #[.int .i64 a0_0,.int .i64 a0_1,.int .i64 a0_2] 40 (0,0))) := ⟨by rw [← hq_];exact (by (with_reducible repeat (first|refine blk_drewN ?_ _|refine blk_drew ?_|refine blk_alloc ?_ _));exact BK186.out)⟩;have n1_ : Aside0 (Below w.heap.size w w8) := ⟨by rw [← hq_];exact (by repeat (first|(with_reducible first|exact HB.out|apply below_alloc|apply pw_below_drewN|apply below_drew1|refine below_set ?_ GE186.out)|exact HB.out))⟩;clear BK186 HB hq_;have BK186 := n0_;have HB := n1_;clear n0_ n1_))
    have n0_ := Aside0.mk (blk_drew BK186.out)
    have n1_ := Aside0.mk (below_drew1 HB.out)
    clear BK186
    clear HB
    have BK186 := n0_
    have HB := n1_
    clear n0_ n1_
    refine start_ (n := 10) (S := fun w' => w'.cell? ⟨gb186,0,none⟩ = some (.int .i64 a0_0) ∧ w'.cell? ⟨gb186,1,none⟩ = some (.int .i64 a0_1) ∧ w'.cell? ⟨gb186,2,none⟩ = some (.int .i64 a0_2)) (ds := []) #[false,false,false,false,false,false,false,false,false,false] (by kernel_rfl) rfl rfl ⟨(blk_cell BK186.out 0).trans rfl,(blk_cell BK186.out 1).trans rfl,(blk_cell BK186.out 2).trans rfl⟩ (fun hHeld => ?_);refine with_tabW strakeref05_front.tab1 strakeref05_front.bits1 (fun HT_ HW_ => ?_)
    generalize w8.drew = w9 at BK186 HB hHeld ⊢
    refine pure_ (i := 0) (N := some 4) (v := ?_) (a' := ?_) #[true,false,false,false,false,false,false,false,false,false] rfl rfl (any_of HT_.out (by kernel_rfl)) (fun _ _ _ h => h) (Or.inl ⟨by rfl,?_⟩) ?_ ?_
    rotate_left
    ·intro w'
     go_simp
     with_reducible rfl
    rotate_left
    ·simp only [Act.put, List.setIfInBounds_toArray, List.set_cons_zero, List.set_cons_succ, i64_w, i32_w]
     rfl
    refine pure_ (i := 4) (N := some 8) (v := ?_) (a' := ?_) #[true,false,false,false,true,false,false,false,false,false] rfl rfl (any_of HT_.out (by kernel_rfl)) (fun _ _ _ h => h) (Or.inl ⟨by rfl,?_⟩) ?_ ?_
    rotate_left
    ·intro w'
     go_simp
     with_reducible rfl
    rotate_left
    ·simp only [Act.put, List.setIfInBounds_toArray, List.set_cons_zero, List.set_cons_succ, i64_w, i32_w]
     rfl
    refine take_ (i := 1) (N := some 5) (v := ?_) (a' := ?_) #[true,true,false,false,true,false,false,false,false,false] rfl rfl (take_ofW HT_.out HW_.out (by kernel_rfl)) (fun _ _ _ h => h) (Or.inl ⟨by rfl,?_⟩) hHeld ?_ ?_
    rotate_left
    ·rintro w' ⟨s0, s1, s2⟩
     go_simp
     with_reducible rfl
    rotate_left
    ·simp only [Act.put, List.setIfInBounds_toArray, List.set_cons_zero, List.set_cons_succ, i64_w, i32_w]
     rfl
    refine pure_ (i := 2) (N := some 6) (v := ?_) (a' := ?_) #[true,true,true,false,true,false,false,false,false,false] rfl rfl (any_of HT_.out (by kernel_rfl)) (fun _ _ _ h => h) (Or.inl ⟨by rfl,?_⟩) ?_ ?_
    rotate_left
    ·intro w'
     go_simp
     with_reducible rfl
    rotate_left
    ·simp only [Act.put, List.setIfInBounds_toArray, List.set_cons_zero, List.set_cons_succ, i64_w, i32_w]
     rfl
    refine take_ (i := 5) (N := some 9) (v := ?_) (a' := ?_) #[true,true,true,false,true,true,false,false,false,false] rfl rfl (take_ofW HT_.out HW_.out (by kernel_rfl)) (fun _ _ _ h => h) (Or.inl ⟨by rfl,?_⟩) hHeld ?_ ?_
    rotate_left
    ·rintro w' ⟨s0, s1, s2⟩
     go_simp
     with_reducible rfl
    rotate_left
    ·simp only [Act.put, List.setIfInBounds_toArray, List.set_cons_zero, List.set_cons_succ, i64_w, i32_w]
     rfl
    refine pure_ (i := 6) (N := some 10) (v := ?_) (a' := ?_) #[true,true,true,false,true,true,true,false,false,false] rfl rfl (any_of HT_.out (by kernel_rfl)) (fun _ _ _ h => h) (Or.inl ⟨by rfl,?_⟩) ?_ ?_
    rotate_left
    ·intro w'
     go_simp
     with_reducible rfl
    rotate_left
    ·simp only [Act.put, List.setIfInBounds_toArray, List.set_cons_zero, List.set_cons_succ, i64_w, i32_w]
     rfl
    refine join_ (σ := Value × Value) 2 #[true,true,true,true,true,true,true,true,false,false] (fun s_ => [(7,s_.1),(11,s_.2)]) (fun s_ w' => (w'.cell? ⟨gb186,0,none⟩ = some (.int .i64 a0_0) ∧ w'.cell? ⟨gb186,1,none⟩ = some (.int .i64 a0_1) ∧ w'.cell? ⟨gb186,2,none⟩ = some (.int .i64 a0_2)) ∧ (Kd.R (Kd.int .u8) 5 w' w.heap.size (fun k_ => some k_ ≠ (s_.2 : Value).ownBlock) s_.1 y187) ∧ (Kd.R (Kd.int .u8) 5 w' w.heap.size (fun k_ => some k_ ≠ (s_.1 : Value).ownBlock) s_.2 t190) ∧ (w'.heap[gb186]? = some (.cells #[.int .i64 a0_0,.int .i64 a0_1,.int .i64 a0_2] 40 (0,0))) ∧ (Below w.heap.size w w')) ?_ ?_
    rotate_left
    ·intro hCont
     refine two_ (i := 3) (j := 7) (Ni := some 7) (Nj := some 11) #[true,true,true,true,true,true,true,false,false,false] #[true,true,true,false,true,true,true,true,false,false] rfl rfl rfl rfl (two_of HT_.out (by kernel_rfl)) (by decide) (by decide) (fun K hK => ?_) (fun K hK => ?_)
     ·skip
      refine Kd.R_lit_step (Kd.int .u8) _ 5 ?hg (N := 7) ?hd (xs := ([(a0_0) % 256] : List Int)) (inner := [.int .u8 ((a0_0) % 256)]) (ok := fun _ => True) (okp := fun _ => True) ?hr ?hp (fun _ hk => hk) trivial (Below.refl _ _) (Nat.le_refl _) (by simp) ?_;(case hd => rfl);(case hg => rfl);(case hr => first|(go_simp;done)|(go_simp;rfl));(case hp => exact (Reps.one (show Kd.M (Kd.int .u8) _ _ _ ((a0_0) % 256) [.int .u8 ((a0_0) % 256)] from rfl) (Reps.none _ _)))
      intro v188 w10 ho11 hb hg_ hnew_
      clear hg_ hnew_
      (first | rw [← Ny187.out] at ho11 | (simp only [Int.reduceToNat] at ho11; rw [← Ny187.out] at ho11))
      have n0_ := Aside0.mk (Kd.R_lower ho11 (below_size (by repeat (first|(with_reducible first|exact HB.out|apply below_alloc|apply pw_below_drewN|apply below_drew1|refine below_set ?_ GE186.out)|exact HB.out))))
      have n1_ := Aside0.mk (blk_below (g := gb186) (o := .cells #[.int .i64 a0_0,.int .i64 a0_1,.int .i64 a0_2] 40 (0,0)) (by (with_reducible repeat (first|refine blk_drewN ?_ _|refine blk_drew ?_|refine blk_alloc ?_ _));exact BK186.out) hb)
      have n2_ := Aside0.mk (below_step (by repeat (first|(with_reducible first|exact HB.out|apply below_alloc|apply pw_below_drewN|apply below_drew1|refine below_set ?_ GE186.out)|exact HB.out)) hb)
      clear BK186
      clear HB
      have HO189 := n0_
      have BK186 := n1_
      have HB := n2_
      clear n0_ n1_ n2_
      clear hb ho11
      refine hK.out _ _ ⟨(blk_cell BK186.out 0).trans rfl,(blk_cell BK186.out 1).trans rfl,(blk_cell BK186.out 2).trans rfl⟩ (fun hHeld => ?_)
      clear hK K
      refine norm_ (a' := ?_) ?_ ?_
      rotate_left
      ·show Act.put _ (some 7) _ = _
       simp only [Act.put, List.setIfInBounds_toArray, List.set_cons_zero, List.set_cons_succ, i64_w, i32_w]
       rfl
      refine one_ (i := 7) (N := some 11) #[true,true,true,true,true,true,true,true,false,false] rfl rfl (one_of HT_.out (by kernel_rfl)) (by decide) (fun K hK => ?_)
      refine goes_ Try.func43 (by kernel_rfl) rfl #[.int .u32 ((a0_1) % 4294967296)] (by rfl) rfl rfl (by (try simp only [List.map_toArray,List.map_cons,List.map_nil]);first|done|rfl|(simp only [List.length_drop,List.length_take];rfl)) ?_
      with_reducible refine (strakeref02_Fixed.calls k ((a0_1) % 4294967296) t190 _ A2.out).mono ?_
      rintro e w12 ⟨v191, rfl, ho0, hb⟩
      refine ⟨_, rfl, ?_⟩
      have n0_ := Aside0.mk (Kd.R_elder' (by (with_reducible repeat (first|apply Kd.R_alloc|apply Kd.R_drewN|apply Kd.R_drew));exact HO189.out) (Kd.R_base ho0) hb)
      have n1_ := Aside0.mk (Kd.R_lower (Kd.R_new' ho0 (Kd.R_lt (by (with_reducible repeat (first|apply Kd.R_alloc|apply Kd.R_drewN|apply Kd.R_drew));exact HO189.out))) (below_size (by repeat (first|(with_reducible first|exact HB.out|apply below_alloc|apply pw_below_drewN|apply below_drew1|refine below_set ?_ GE186.out)|exact HB.out))))
      have n2_ := Aside0.mk (blk_below (g := gb186) (o := .cells #[.int .i64 a0_0,.int .i64 a0_1,.int .i64 a0_2] 40 (0,0)) (by (with_reducible repeat (first|refine blk_drewN ?_ _|refine blk_drew ?_|refine blk_alloc ?_ _));exact BK186.out) hb)
      have n3_ := Aside0.mk (below_step (by repeat (first|(with_reducible first|exact HB.out|apply below_alloc|apply pw_below_drewN|apply below_drew1|refine below_set ?_ GE186.out)|exact HB.out)) hb)
      clear HO189
      clear BK186
      clear HB
      have HO189 := n0_
      have HO192 := n1_
      have BK186 := n2_
      have HB := n3_
      clear n0_ n1_ n2_ n3_
      (try clear hb)
      (try clear hb2)
      (try clear hk)
      (try clear hi)
      (try clear ho0)
      refine hK.out _ _ ⟨(blk_cell BK186.out 0).trans rfl,(blk_cell BK186.out 1).trans rfl,(blk_cell BK186.out 2).trans rfl⟩ (fun hHeld => ?_)
      clear hK K
      refine norm_ (a' := ?_) ?_ ?_
      rotate_left
      ·show Act.put _ (some 11) _ = _
       simp only [Act.put, List.setIfInBounds_toArray, List.set_cons_zero, List.set_cons_succ, i64_w, i32_w]
       rfl
      exact norm_ (by simp only [putAll,Act.put,List.setIfInBounds_toArray,List.set_cons_zero,List.set_cons_succ]) (hCont (v188,v191) _ ⟨hHeld,(by (with_reducible repeat (first|apply Kd.R_alloc|apply Kd.R_drewN|apply Kd.R_drew));exact Kd.R_mono HO189.out (fun _ hk => hk.2)),(by (with_reducible repeat (first|apply Kd.R_alloc|apply Kd.R_drewN|apply Kd.R_drew));exact Kd.R_mono HO192.out (fun _ hk => hk.2)),(by (with_reducible repeat (first|refine blk_drewN ?_ _|refine blk_drew ?_|refine blk_alloc ?_ _));exact BK186.out),(by repeat (first|(with_reducible first|exact HB.out|apply below_alloc|apply pw_below_drewN|apply below_drew1|refine below_set ?_ GE186.out)|exact HB.out))⟩)
     ·skip
      refine goes_ Try.func43 (by kernel_rfl) rfl #[.int .u32 ((a0_1) % 4294967296)] (by rfl) rfl rfl (by (try simp only [List.map_toArray,List.map_cons,List.map_nil]);first|done|rfl|(simp only [List.length_drop,List.length_take];rfl)) ?_
      with_reducible refine (strakeref02_Fixed.calls k ((a0_1) % 4294967296) t190 _ A2.out).mono ?_
      rintro e w10 ⟨v191, rfl, ho0, hb⟩
      refine ⟨_, rfl, ?_⟩
      have n0_ := Aside0.mk (Kd.R_lower ho0 (below_size (by repeat (first|(with_reducible first|exact HB.out|apply below_alloc|apply pw_below_drewN|apply below_drew1|refine below_set ?_ GE186.out)|exact HB.out))))
      have n1_ := Aside0.mk (blk_below (g := gb186) (o := .cells #[.int .i64 a0_0,.int .i64 a0_1,.int .i64 a0_2] 40 (0,0)) (by (with_reducible repeat (first|refine blk_drewN ?_ _|refine blk_drew ?_|refine blk_alloc ?_ _));exact BK186.out) hb)
      have n2_ := Aside0.mk (below_step (by repeat (first|(with_reducible first|exact HB.out|apply below_alloc|apply pw_below_drewN|apply below_drew1|refine below_set ?_ GE186.out)|exact HB.out)) hb)
      clear BK186
      clear HB
      have HO192 := n0_
      have BK186 := n1_
      have HB := n2_
      clear n0_ n1_ n2_
      (try clear hb)
      (try clear hb2)
      (try clear hk)
      (try clear hi)
      (try clear ho0)
      refine hK.out _ _ ⟨(blk_cell BK186.out 0).trans rfl,(blk_cell BK186.out 1).trans rfl,(blk_cell BK186.out 2).trans rfl⟩ (fun hHeld => ?_)
      clear hK K
      refine norm_ (a' := ?_) ?_ ?_
      rotate_left
      ·show Act.put _ (some 11) _ = _
       simp only [Act.put, List.setIfInBounds_toArray, List.set_cons_zero, List.set_cons_succ, i64_w, i32_w]
       rfl
      refine one_ (i := 3) (N := some 7) #[true,true,true,true,true,true,true,true,false,false] rfl rfl (one_of HT_.out (by kernel_rfl)) (by decide) (fun K hK => ?_)
      refine Kd.R_lit_step (Kd.int .u8) _ 5 ?hg (N := 7) ?hd (xs := ([(a0_0) % 256] : List Int)) (inner := [.int .u8 ((a0_0) % 256)]) (ok := fun _ => True) (okp := fun _ => True) ?hr ?hp (fun _ hk => hk) trivial (Below.refl _ _) (Nat.le_refl _) (by simp) ?_;(case hd => rfl);(case hg => rfl);(case hr => first|(go_simp;done)|(go_simp;rfl));(case hp => exact (Reps.one (show Kd.M (Kd.int .u8) _ _ _ ((a0_0) % 256) [.int .u8 ((a0_0) % 256)] from rfl) (Reps.none _ _)))
      intro v188 w11 ho12 hb hg_ hnew_
      clear hg_ hnew_
      (first | rw [← Ny187.out] at ho12 | (simp only [Int.reduceToNat] at ho12; rw [← Ny187.out] at ho12))
      have n0_ := Aside0.mk (Kd.R_elder' (by (with_reducible repeat (first|apply Kd.R_alloc|apply Kd.R_drewN|apply Kd.R_drew));exact HO192.out) (Kd.R_base ho12) hb)
      have n1_ := Aside0.mk (Kd.R_lower (Kd.R_new' ho12 (Kd.R_lt (by (with_reducible repeat (first|apply Kd.R_alloc|apply Kd.R_drewN|apply Kd.R_drew));exact HO192.out))) (below_size (by repeat (first|(with_reducible first|exact HB.out|apply below_alloc|apply pw_below_drewN|apply below_drew1|refine below_set ?_ GE186.out)|exact HB.out))))
      have n2_ := Aside0.mk (blk_below (g := gb186) (o := .cells #[.int .i64 a0_0,.int .i64 a0_1,.int .i64 a0_2] 40 (0,0)) (by (with_reducible repeat (first|refine blk_drewN ?_ _|refine blk_drew ?_|refine blk_alloc ?_ _));exact BK186.out) hb)
      have n3_ := Aside0.mk (below_step (by repeat (first|(with_reducible first|exact HB.out|apply below_alloc|apply pw_below_drewN|apply below_drew1|refine below_set ?_ GE186.out)|exact HB.out)) hb)
      clear HO192
      clear BK186
      clear HB
      have HO192 := n0_
      have HO189 := n1_
      have BK186 := n2_
      have HB := n3_
      clear n0_ n1_ n2_ n3_
      clear hb ho12
      refine hK.out _ _ ⟨(blk_cell BK186.out 0).trans rfl,(blk_cell BK186.out 1).trans rfl,(blk_cell BK186.out 2).trans rfl⟩ (fun hHeld => ?_)
      clear hK K
      refine norm_ (a' := ?_) ?_ ?_
      rotate_left
      ·show Act.put _ (some 7) _ = _
       simp only [Act.put, List.setIfInBounds_toArray, List.set_cons_zero, List.set_cons_succ, i64_w, i32_w]
       rfl
      exact norm_ (by simp only [putAll,Act.put,List.setIfInBounds_toArray,List.set_cons_zero,List.set_cons_succ]) (hCont (v188,v191) _ ⟨hHeld,(by (with_reducible repeat (first|apply Kd.R_alloc|apply Kd.R_drewN|apply Kd.R_drew));exact Kd.R_mono HO189.out (fun _ hk => hk.2)),(by (with_reducible repeat (first|apply Kd.R_alloc|apply Kd.R_drewN|apply Kd.R_drew));exact Kd.R_mono HO192.out (fun _ hk => hk.2)),(by (with_reducible repeat (first|refine blk_drewN ?_ _|refine blk_drew ?_|refine blk_alloc ?_ _));exact BK186.out),(by repeat (first|(with_reducible first|exact HB.out|apply below_alloc|apply pw_below_drewN|apply below_drew1|refine below_set ?_ GE186.out)|exact HB.out))⟩)
    rintro ⟨v188, v191⟩ w13 ⟨hS_, h0_, h1_, h2_, h3_⟩
    have n0_ : Aside0 (Kd.R (Kd.int .u8) 5 w13 w.heap.size (fun k_ => some k_ ≠ (v191 : Value).ownBlock) v188 y187) := ⟨h0_⟩
    have n1_ : Aside0 (Kd.R (Kd.int .u8) 5 w13 w.heap.size (fun k_ => some k_ ≠ (v188 : Value).ownBlock) v191 t190) := ⟨h1_⟩
    have n2_ : Aside0 (w13.heap[gb186]? = some (.cells #[.int .i64 a0_0,.int .i64 a0_1,.int .i64 a0_2] 40 (0,0))) := ⟨h2_⟩
    have n3_ : Aside0 (Below w.heap.size w w13) := ⟨h3_⟩
    clear BK186
    clear HB
    clear h0_ h1_ h2_ h3_
    have HO189 := n0_
    have HO192 := n1_
    have BK186 := n2_
    have HB := n3_
    clear n0_ n1_ n2_ n3_
    have hHeld : w13.cell? ⟨gb186,0,none⟩ = some (.int .i64 a0_0) ∧ w13.cell? ⟨gb186,1,none⟩ = some (.int .i64 a0_1) ∧ w13.cell? ⟨gb186,2,none⟩ = some (.int .i64 a0_2) := hS_
    obtain ⟨Ao15, co15, eo15⟩ := Kd.R_slice HO192.out
    (first|subst eo15|(injection eo15 with f1_ f2_ f3_;have f4_ := f1_.symm;have f5_ := f3_.symm;clear f1_ f2_ f3_;subst f4_;subst f5_))
    refine norm_ (a' := ?_) ?_ ?_
    rotate_left
    ·simp only [putAll, Act.put, List.setIfInBounds_toArray, List.set_cons_zero, List.set_cons_succ]
     rfl
    refine one_ (i := 8) (N := some 12) #[true,true,true,true,true,true,true,true,true,false] rfl rfl (one_of HT_.out (by kernel_rfl)) (by decide) (fun K hK => ?_)
    refine Kd.R_append_rows_step (Kd.int .u8) (w0 := w) w.heap.size (by rfl) (.tmp 7) (.tmp 11) 36 5 (.int .u8 0) 1 rfl Try.underlying36 info5 rfl (by decide) (by omega) v188 y187 t190 _ _ _ (fun k_ => some k_ ≠ (.slice Ao15 t190.length co15 : Value).ownBlock) (fun _ => False) rfl rfl ?aO ?aR (fun _ _ h => h) (fun _ h => h.elim) ?aF ?aB ?aS ?aL ?_
    (case aR => repeat (first|exact (Kd.R_reads' HO192.out).2.2|(with_reducible refine Kd.C_alloc ?_ _)|(with_reducible refine Kd.C_drewN ?_ _)|(with_reducible refine Kd.C_drew ?_)))
    (case aB => exact (by repeat (first|(with_reducible first|exact HB.out|apply below_alloc|apply pw_below_drewN|apply below_drew1|refine below_set ?_ GE186.out)|exact HB.out)))
    (case aF => exact (fun k_ hk => Kd.fresh' (Kd.R_lt (by (with_reducible repeat (first|apply Kd.R_alloc|apply Kd.R_drewN|apply Kd.R_drew));exact HO192.out)) k_ hk))
    (case aO => exact (by (with_reducible repeat (first|apply Kd.R_alloc|apply Kd.R_drewN|apply Kd.R_drew));exact HO189.out))
    (case aS => exact (below_size (by repeat (first|(with_reducible first|exact HB.out|apply below_alloc|apply pw_below_drewN|apply below_drew1|refine below_set ?_ GE186.out)|exact HB.out))))
    (case aL => have := LMc3.out; omega)
    intro v194 w14 ho hb hg hat
    rw [← Ny193.out] at ho
    have n0_ := Aside0.mk (blk_grown (g := gb186) (o := .cells #[.int .i64 a0_0,.int .i64 a0_1,.int .i64 a0_2] 40 (0,0)) (by (with_reducible repeat (first|refine blk_drewN ?_ _|refine blk_drew ?_|refine blk_alloc ?_ _));exact BK186.out) hg (Kd.R_ne HO189.out BK186.out (by decide)))
    have n1_ := Aside0.mk (Kd.R_after (ok := (fun _ => True)) (by (with_reducible repeat (first|apply Kd.R_alloc|apply Kd.R_drewN|apply Kd.R_drew));exact Kd.R_mono HO192.out (fun _ hk => ⟨trivial,hk⟩)) hg hat)
    have n2_ := Aside0.mk (hb)
    have n3_ := Aside0.mk (ho)
    clear BK186
    clear HO192
    clear HB
    clear HO189
    have BK186 := n0_
    have HO192 := n1_
    have HB := n2_
    have HO195 := n3_
    clear n0_ n1_ n2_ n3_
    clear ho hb hg hat
    refine hK.out _ _ ⟨(blk_cell BK186.out 0).trans rfl,(blk_cell BK186.out 1).trans rfl,(blk_cell BK186.out 2).trans rfl⟩ (fun hHeld => ?_)
    clear hK K
    refine norm_ (a' := ?_) ?_ ?_
    rotate_left
    ·show Act.put _ (some 12) _ = _
     simp only [Act.put, List.setIfInBounds_toArray, List.set_cons_zero, List.set_cons_succ, i64_w, i32_w]
     rfl
    refine pure_ (i := 9) (N := some 3) (v := ?_) (a' := ?_) #[true,true,true,true,true,true,true,true,true,true] rfl rfl (any_of HT_.out (by kernel_rfl)) (fun _ _ _ h => h) (Or.inl ⟨by rfl,?_⟩) ?_ ?_
    rotate_left
    ·intro w'
     go_simp
     with_reducible rfl
    rotate_left
    ·simp only [Act.put, List.setIfInBounds_toArray, List.set_cons_zero, List.set_cons_succ, i64_w, i32_w]
     rfl
    refine done_ (done_of HT_.out (by kernel_rfl)) ?_
    have hcz16_0 : w14.cell? ⟨gb186, 0, none⟩ = some (.int .i64 a0_0) := (blk_cell BK186.out 0).trans rfl
    have hcz16_1 : w14.cell? ⟨gb186, 1, none⟩ = some (.int .i64 a0_1) := (blk_cell BK186.out 1).trans rfl
    have hcz16_2 : w14.cell? ⟨gb186, 2, none⟩ = some (.int .i64 a0_2) := (blk_cell BK186.out 2).trans rfl
    have hfz16_0 := blk_frozen BK186.out 0
    have hfz16_1 := blk_frozen BK186.out 1
    have hfz16_2 := blk_frozen BK186.out 2
    try go_wp2_with (first|((with_reducible refine gate_callee (f := 43) rfl ?_);refine goesL_ (some 18) rfl rfl Try.func43 (by kernel_rfl) rfl #[.int .u32 ((Int.tmod a0_2 4294967296) % 4294967296)] rfl (by (try simp only [List.map_toArray,List.map_cons,List.map_nil]);first|done|rfl|(simp only [List.length_drop,List.length_take];rfl)) ?_;(with_reducible refine (strakeref02_Fixed.calls k ((Int.tmod a0_2 4294967296) % 4294967296) t196 _ A4.out).mono ?_);rintro e w17 ⟨v197,rfl,ho0,hb⟩;refine ⟨_,rfl,?_⟩;have n0_ := Aside0.mk (Kd.R_elder' (by (with_reducible repeat (first|apply Kd.R_alloc|apply Kd.R_drewN|apply Kd.R_drew));exact HO192.out) (Kd.R_base ho0) hb);have n1_ := Aside0.mk (Kd.R_elder' (by (with_reducible repeat (first|apply Kd.R_alloc|apply Kd.R_drewN|apply Kd.R_drew));exact HO195.out) (Kd.R_base ho0) hb);have n2_ := Aside0.mk (Kd.R_lower (Kd.R_new' (Kd.R_new' ho0 (Kd.R_lt (by (with_reducible repeat (first|apply Kd.R_alloc|apply Kd.R_drewN|apply Kd.R_drew));exact HO192.out))) (Kd.R_lt (by (with_reducible repeat (first|apply Kd.R_alloc|apply Kd.R_drewN|apply Kd.R_drew));exact HO195.out))) (below_size (by repeat (first|(with_reducible first|exact HB.out|apply below_alloc|apply pw_below_drewN|apply below_drew1|refine below_set ?_ GE186.out)|exact HB.out))));have n3_ := Aside0.mk (blk_below (g := gb186) (o := .cells #[.int .i64 a0_0,.int .i64 a0_1,.int .i64 a0_2] 40 (0,0)) (by (with_reducible repeat (first|refine blk_drewN ?_ _|refine blk_drew ?_|refine blk_alloc ?_ _));exact BK186.out) hb);have n4_ := Aside0.mk (below_step (by repeat (first|(with_reducible first|exact HB.out|apply below_alloc|apply pw_below_drewN|apply below_drew1|refine below_set ?_ GE186.out)|exact HB.out)) hb);clear HO192;clear HO195;clear BK186;clear HB;have HO192 := n0_;have HO195 := n1_;have HO198 := n2_;have BK186 := n3_;have HB := n4_;clear n0_ n1_ n2_ n3_ n4_;(try clear hb);(try clear hb2);(try clear hk);(try clear hi);(try clear ho0);obtain ⟨Ao19,co19,eo19⟩ := Kd.R_slice HO198.out;subst eo19)|((with_reducible refine gate_builtin (b := .append) (xs := #[.tmp 13,.tmp 18]) rfl ?_);at_builtin;refine Kd.R_append_rows (Kd.int .u8) (w0 := w) w.heap.size rfl (.tmp 13) (.tmp 18) 36 5 (.int .u8 0) 1 rfl Try.underlying36 info5 rfl (by decide) (by omega) v194 y193 t196 _ _ _ (fun k_ => some k_ ≠ (.slice Ao15 t190.length co15 : Value).ownBlock ∧ some k_ ≠ (.slice Ao19 t196.length co19 : Value).ownBlock) (fun _ => False) rfl rfl ?aO ?aR (fun _ _ h => h) (fun _ h => h.elim) ?aF ?aB ?aS ?aL ?_;(case aR => repeat (first|exact (Kd.R_reads' HO198.out).2.2|(with_reducible refine Kd.C_alloc ?_ _)|(with_reducible refine Kd.C_drewN ?_ _)|(with_reducible refine Kd.C_drew ?_)));(case aB => exact (by repeat (first|(with_reducible first|exact HB.out|apply below_alloc|apply pw_below_drewN|apply below_drew1|refine below_set ?_ GE186.out)|exact HB.out)));(case aF => exact (fun k_ hk => ⟨Kd.fresh' (Kd.R_lt (by (with_reducible repeat (first|apply Kd.R_alloc|apply Kd.R_drewN|apply Kd.R_drew));exact HO192.out)) k_ hk,Kd.fresh' (Kd.R_lt (by (with_reducible repeat (first|apply Kd.R_alloc|apply Kd.R_drewN|apply Kd.R_drew));exact HO198.out)) k_ hk⟩));(case aO => exact (by (with_reducible repeat (first|apply Kd.R_alloc|apply Kd.R_drewN|apply Kd.R_drew));exact HO195.out));(case aS => exact (below_size (by repeat (first|(with_reducible first|exact HB.out|apply below_alloc|apply pw_below_drewN|apply below_drew1|refine below_set ?_ GE186.out)|exact HB.out))));(case aL => have := LMc5.out;omega);intro v200 w18 ho hb hg hat;rw [← Ny199.out] at ho;have n0_ := Aside0.mk (blk_grown (g := gb186) (o := .cells #[.int .i64 a0_0,.int .i64 a0_1,.int .i64 a0_2] 40 (0,0)) (by (with_reducible repeat (first|refine blk_drewN ?_ _|refine blk_drew ?_|refine blk_alloc ?_ _));exact BK186.out) hg (Kd.R_ne HO195.out BK186.out (by decide)));have n1_ := Aside0.mk (Kd.R_after (ok := (fun k_ => some k_ ≠ (.slice Ao19 t196.length co19 : Value).ownBlock)) (by (with_reducible repeat (first|apply Kd.R_alloc|apply Kd.R_drewN|apply Kd.R_drew));exact Kd.R_mono HO192.out (fun _ hk => ⟨hk.2,hk.1.2⟩)) hg hat);have n2_ := Aside0.mk (Kd.R_after (ok := (fun k_ => some k_ ≠ (.slice Ao15 t190.length co15 : Value).ownBlock)) (by (with_reducible repeat (first|apply Kd.R_alloc|apply Kd.R_drewN|apply Kd.R_drew));exact Kd.R_mono HO198.out (fun _ hk => ⟨hk.1.2,hk.2⟩)) hg hat);have n3_ := Aside0.mk (hb);have n4_ := Aside0.mk (ho);clear BK186;clear HO192;clear HO198;clear HB;clear HO195;have BK186 := n0_;have HO192 := n1_;have HO198 := n2_;have HB := n3_;have HO201 := n4_;clear n0_ n1_ n2_ n3_ n4_;clear ho hb hg hat;have hcz20_0 : w18.cell? ⟨gb186,0,none⟩ = some (.int .i64 a0_0) := (blk_cell BK186.out 0).trans rfl;have hcz20_1 : w18.cell? ⟨gb186,1,none⟩ = some (.int .i64 a0_1) := (blk_cell BK186.out 1).trans rfl;have hcz20_2 : w18.cell? ⟨gb186,2,none⟩ = some (.int .i64 a0_2) := (blk_cell BK186.out 2).trans rfl;have hfz20_0 := blk_frozen BK186.out 0;have hfz20_1 := blk_frozen BK186.out 1;have hfz20_2 := blk_frozen BK186.out 2)|((with_reducible refine gate_callee (f := 43) rfl ?_);refine goesL_ (some 25) rfl rfl Try.func43 (by kernel_rfl) rfl #[.int .u32 ((wrap64 (Int.tdiv a0_2 4294967296)) % 4294967296)] rfl (by (try simp only [List.map_toArray,List.map_cons,List.map_nil]);first|done|rfl|(simp only [List.length_drop,List.length_take];rfl)) ?_;(with_reducible refine (strakeref02_Fixed.calls k ((wrap64 (Int.tdiv a0_2 4294967296)) % 4294967296) t202 _ A6.out).mono ?_);rintro e w21 ⟨v203,rfl,ho0,hb⟩;refine ⟨_,rfl,?_⟩;have n0_ := Aside0.mk (Kd.R_elder' (by (with_reducible repeat (first|apply Kd.R_alloc|apply Kd.R_drewN|apply Kd.R_drew));exact HO192.out) (Kd.R_base ho0) hb);have n1_ := Aside0.mk (Kd.R_elder' (by (with_reducible repeat (first|apply Kd.R_alloc|apply Kd.R_drewN|apply Kd.R_drew));exact HO198.out) (Kd.R_base ho0) hb);have n2_ := Aside0.mk (Kd.R_elder' (by (with_reducible repeat (first|apply Kd.R_alloc|apply Kd.R_drewN|apply Kd.R_drew));exact HO201.out) (Kd.R_base ho0) hb);have n3_ := Aside0.mk (Kd.R_lower (Kd.R_new' (Kd.R_new' (Kd.R_new' ho0 (Kd.R_lt (by (with_reducible repeat (first|apply Kd.R_alloc|apply Kd.R_drewN|apply Kd.R_drew));exact HO192.out))) (Kd.R_lt (by (with_reducible repeat (first|apply Kd.R_alloc|apply Kd.R_drewN|apply Kd.R_drew));exact HO198.out))) (Kd.R_lt (by (with_reducible repeat (first|apply Kd.R_alloc|apply Kd.R_drewN|apply Kd.R_drew));exact HO201.out))) (below_size (by repeat (first|(with_reducible first|exact HB.out|apply below_alloc|apply pw_below_drewN|apply below_drew1|refine below_set ?_ GE186.out)|exact HB.out))));have n4_ := Aside0.mk (blk_below (g := gb186) (o := .cells #[.int .i64 a0_0,.int .i64 a0_1,.int .i64 a0_2] 40 (0,0)) (by (with_reducible repeat (first|refine blk_drewN ?_ _|refine blk_drew ?_|refine blk_alloc ?_ _));exact BK186.out) hb);have n5_ := Aside0.mk (below_step (by repeat (first|(with_reducible first|exact HB.out|apply below_alloc|apply pw_below_drewN|apply below_drew1|refine below_set ?_ GE186.out)|exact HB.out)) hb);clear HO192;clear HO198;clear HO201;clear BK186;clear HB;have HO192 := n0_;have HO198 := n1_;have HO201 := n2_;have HO204 := n3_;have BK186 := n4_;have HB := n5_;clear n0_ n1_ n2_ n3_ n4_ n5_;(try clear hb);(try clear hb2);(try clear hk);(try clear hi);(try clear ho0);obtain ⟨Ao23,co23,eo23⟩ := Kd.R_slice HO204.out;subst eo23)|((with_reducible refine gate_builtin (b := .append) (xs := #[.tmp 20,.tmp 25]) rfl ?_);at_builtin;refine Kd.R_append_rows (Kd.int .u8) (w0 := w) w.heap.size rfl (.tmp 20) (.tmp 25) 36 5 (.int .u8 0) 1 rfl Try.underlying36 info5 rfl (by decide) (by omega) v200 y199 t202 _ _ _ (fun k_ => some k_ ≠ (.slice Ao15 t190.length co15 : Value).ownBlock ∧ some k_ ≠ (.slice Ao19 t196.length co19 : Value).ownBlock ∧ some k_ ≠ (.slice Ao23 t202.length co23 : Value).ownBlock) (fun _ => False) rfl rfl ?aO ?aR (fun _ _ h => h) (fun _ h => h.elim) ?aF ?aB ?aS ?aL ?_;(case aR => repeat (first|exact (Kd.R_reads' HO204.out).2.2|(with_reducible refine Kd.C_alloc ?_ _)|(with_reducible refine Kd.C_drewN ?_ _)|(with_reducible refine Kd.C_drew ?_)));(case aB => exact (by repeat (first|(with_reducible first|exact HB.out|apply below_alloc|apply pw_below_drewN|apply below_drew1|refine below_set ?_ GE186.out)|exact HB.out)));(case aF => exact (fun k_ hk => ⟨Kd.fresh' (Kd.R_lt (by (with_reducible repeat (first|apply Kd.R_alloc|apply Kd.R_drewN|apply Kd.R_drew));exact HO192.out)) k_ hk,Kd.fresh' (Kd.R_lt (by (with_reducible repeat (first|apply Kd.R_alloc|apply Kd.R_drewN|apply Kd.R_drew));exact HO198.out)) k_ hk,Kd.fresh' (Kd.R_lt (by (with_reducible repeat (first|apply Kd.R_alloc|apply Kd.R_drewN|apply Kd.R_drew));exact HO204.out)) k_ hk⟩));(case aO => exact (by (with_reducible repeat (first|apply Kd.R_alloc|apply Kd.R_drewN|apply Kd.R_drew));exact Kd.R_mono HO201.out (fun _ hk => ⟨hk.1.1,⟨hk.1.2,hk.2⟩⟩)));(case aS => exact (below_size (by repeat (first|(with_reducible first|exact HB.out|apply below_alloc|apply pw_below_drewN|apply below_drew1|refine below_set ?_ GE186.out)|exact HB.out))));(case aL => have := LMc7.out;omega);intro v206 w22 ho hb hg hat;rw [← Ny205.out] at ho;have n0_ := Aside0.mk (blk_grown (g := gb186) (o := .cells #[.int .i64 a0_0,.int .i64 a0_1,.int .i64 a0_2] 40 (0,0)) (by (with_reducible repeat (first|refine blk_drewN ?_ _|refine blk_drew ?_|refine blk_alloc ?_ _));exact BK186.out) hg (Kd.R_ne HO201.out BK186.out (by decide)));have n1_ := Aside0.mk (Kd.R_after (ok := (fun k_ => some k_ ≠ (.slice Ao19 t196.length co19 : Value).ownBlock ∧ some k_ ≠ (.slice Ao23 t202.length co23 : Value).ownBlock)) (by (with_reducible repeat (first|apply Kd.R_alloc|apply Kd.R_drewN|apply Kd.R_drew));exact Kd.R_mono HO192.out (fun _ hk => ⟨⟨hk.1.1,hk.2⟩,hk.1.2⟩)) hg hat);have n2_ := Aside0.mk (Kd.R_after (ok := (fun k_ => some k_ ≠ (.slice Ao15 t190.length co15 : Value).ownBlock ∧ some k_ ≠ (.slice Ao23 t202.length co23 : Value).ownBlock)) (by (with_reducible repeat (first|apply Kd.R_alloc|apply Kd.R_drewN|apply Kd.R_drew));exact Kd.R_mono HO198.out (fun _ hk => ⟨⟨hk.1.1,hk.2⟩,hk.1.2⟩)) hg hat);have n3_ := Aside0.mk (Kd.R_after (ok := (fun k_ => some k_ ≠ (.slice Ao15 t190.length co15 : Value).ownBlock ∧ some k_ ≠ (.slice Ao19 t196.length co19 : Value).ownBlock)) (by (with_reducible repeat (first|apply Kd.R_alloc|apply Kd.R_drewN|apply Kd.R_drew));exact Kd.R_mono HO204.out (fun _ hk => ⟨⟨hk.1.1.2,hk.1.2⟩,hk.2⟩)) hg hat);have n4_ := Aside0.mk (hb);have n5_ := Aside0.mk (ho);clear BK186;clear HO192;clear HO198;clear HO204;clear HB;clear HO201;have BK186 := n0_;have HO192 := n1_;have HO198 := n2_;have HO204 := n3_;have HB := n4_;have HO207 := n5_;clear n0_ n1_ n2_ n3_ n4_ n5_;clear ho hb hg hat))
    go_ret
    exact ⟨_,by first|rfl|(simp [errW_none,errW_some] <;> rfl)|(simp [*,errW_none,errW_some] <;> rfl),by (with_reducible repeat (first|apply Kd.R_alloc|apply Kd.R_drewN|apply Kd.R_drew));exact Kd.R_mono HO207.out (fun _ hk => trivial),by repeat (first|(with_reducible first|exact HB.out|apply below_alloc|apply pw_below_drewN|apply below_drew1|refine below_set ?_ GE186.out)|exact HB.out)⟩
   ·rw [if_neg c7] at H
    exact absurd H (by simp)
  ·rw [if_neg c5] at H
   exact absurd H (by simp)
 ·rw [if_neg c3] at H
  exact absurd H (by simp)


/-! ### strakeref01_turned: function 49 -/
def strakeref01_turned.l0 : Nat → Int → Int → Int → Option (Int)
 | 0, _, _, _ => none
 | k + 1,x0,x3,x4 => if x4 < 32 then (if 0 ≤ x4 then (if (Go.bits .and .u32 (shr .u32 x0 x4) 1) = 1 then (if 0 ≤ (wrap64 (31 - x4)) then (strakeref01_turned.l0 k x0 (Go.bits .or .u32 x3 (shl .u32 1 (wrap64 (31 - x4)))) (wrap64 (x4 + 1))) else (none)) else (strakeref01_turned.l0 k x0 x3 (wrap64 (x4 + 1)))) else (none)) else (some x3)
def strakeref01_turned.f (k : Nat) (a0 : Int) : Option (Int) := strakeref01_turned.l0 k a0 0 0
theorem strakeref01_turned.mono_l : ∀ k,(∀ y0 y1 y2,LeO (strakeref01_turned.l0 k y0 y1 y2) (strakeref01_turned.l0 (k + 1) y0 y1 y2))
 | 0 => fun _ _ _ r h => by simp [strakeref01_turned.l0] at h
 | k + 1 => by
  have ih0 := strakeref01_turned.mono_l k
  ·intro y0 y1 y2
   unfold strakeref01_turned.l0
   repeat' first
   | (with_reducible exact ih0 _ _ _)
   | (with_reducible exact LeO.refl _)
   | (with_reducible exact LeO.none _)
   | (with_reducible refine LeO.ite ?_ ?_)
   | (with_reducible refine LeO.bind ?_ (fun _ => ?_))
   | exact ih0 _ _ _
   | exact LeO.none _
   | refine LeO.ite ?_ ?_
   | refine LeO.bind ?_ (fun _ => ?_)
theorem strakeref01_turned.mono : ∀ a0 k, LeO (strakeref01_turned.f k a0) (strakeref01_turned.f (k + 1) a0) := by
 intro a0 k
 have ih0 := strakeref01_turned.mono_l k
 unfold strakeref01_turned.f
 repeat' first
   | (with_reducible exact ih0 _ _ _)
   | (with_reducible exact LeO.refl _)
   | (with_reducible exact LeO.none _)
   | (with_reducible refine LeO.ite ?_ ?_)
   | (with_reducible refine LeO.bind ?_ (fun _ => ?_))
   | exact ih0 _ _ _
   | exact LeO.none _
   | refine LeO.ite ?_ ?_
   | refine LeO.bind ?_ (fun _ => ?_)
set_option maxHeartbeats 8000000 in
set_option maxRecDepth 100000 in
theorem strakeref01_turned.calls (k : Nat) (a0 : Int) (r : Int) (w : World) (h : strakeref01_turned.f k a0 = some r) :
  Calls Try.prog 49 #[.int .u32 a0] w fun e w' => e = .returned (.int .u32 r) ∧ Drawn0 w w' := by
 have H : (strakeref01_turned.l0 k a0 0 0) = some r := h
 clear h
 have H' := Aside0.mk H
 clear H
 go_enter Try.func49, Try.ntmps49
 go_wp2
 go_loopg [3,4] k (fun kq v3 v4 w' => ∃ (x3_1 : Int) (x4_1 : Int),v3 = .int .u32 x3_1 ∧ v4 = .int .i64 x4_1 ∧ Aside0 (strakeref01_turned.l0 kq a0 x3_1 x4_1 = some r) ∧ Aside0 (kq ≤ k) ∧ Drawn0 w w')
 case atStart => exact ⟨(0),(0),(by first|rfl|(simp;done)|(simp [*];done)),(by first|rfl|(simp;done)|(simp [*];done)),H',⟨Nat.le_refl _⟩,by repeat (first|exact Drawn0.refl _|apply Drawn0.step)⟩
 case round =>
  clear H'
  obtain ⟨x3_1, x4_1, rfl, rfl, HA, HK1, ⟨m1, rfl⟩⟩ := hrel
  cases gk with
  | zero => exact absurd HA.out (by simp [strakeref01_turned.l0])
  | succ k1 =>
   have H := HA.out
   clear HA
   simp only [strakeref01_turned.l0] at H
   by_cases c2 : x4_1 < 32
   ·rw [if_pos c2] at H
    have c2b0 : decide (x4_1 < 32) = true := decide_eq_true c2
    clear c2
    by_cases c3 : 0 ≤ x4_1
    ·rw [if_pos c3] at H
     have c3b0 := eq_true c3
     have c3b1 : decide (0 ≤ x4_1) = true := decide_eq_true c3
     clear c3
     obtain ⟨ji4, hji4⟩ : ∃ j_ : Int, (shr .u32 a0 x4_1) = j_ := ⟨_, rfl⟩
     replace H : (if (Go.bits .and .u32 (ji4) 1) = 1 then (if 0 ≤ (wrap64 (31 - x4_1)) then (strakeref01_turned.l0 k1 a0 (Go.bits .or .u32 x3_1 (shl .u32 1 (wrap64 (31 - x4_1)))) (wrap64 (x4_1 + 1))) else (none)) else (strakeref01_turned.l0 k1 a0 x3_1 (wrap64 (x4_1 + 1)))) = some r := by first|(rw [hji4] at H;exact H)|(simp only [hji4] at H ⊢;exact H)
     have hji4_ : (a0 / 2 ^ min x4_1.toNat 32) = ji4 := hji4
     have hji4z : x4_1 ≤ 32 → (a0 / 2 ^ x4_1.toNat) = ji4 := shr_small hji4
     by_cases c5 : (Go.bits .and .u32 (ji4) 1) = 1
     ·rw [if_pos c5] at H
      have c5b0 : ((Go.bits .and .u32 (ji4) 1) == 1) = true := beq_iff_eq.mpr c5
      have c5b1 : ((Go.bits .and .u32 (ji4) 1) != 1) = false := bne_eq_false_iff_eq.mpr c5
      clear c5
      obtain ⟨ji6, hji6⟩ : ∃ j_ : Int, (wrap64 (31 - x4_1)) = j_ := ⟨_, rfl⟩
      replace H : (if 0 ≤ (ji6) then (strakeref01_turned.l0 k1 a0 (Go.bits .or .u32 x3_1 (shl .u32 1 (ji6))) (wrap64 (x4_1 + 1))) else (none)) = some r := by first|(rw [hji6] at H;exact H)|(simp only [hji6] at H ⊢;exact H)
      have hji6w : (IntKind.i64.wrap (31 - x4_1)) = ji6 := (i64_w _).trans hji6
      by_cases c7 : 0 ≤ (ji6)
      ·rw [if_pos c7] at H
       have c7b0 := eq_true c7
       have c7b1 : decide (0 ≤ (ji6)) = true := decide_eq_true c7
       clear c7
       obtain ⟨ji8, hji8⟩ : ∃ j_ : Int, (shl .u32 1 (ji6)) = j_ := ⟨_, rfl⟩
       replace H : (strakeref01_turned.l0 k1 a0 (Go.bits .or .u32 x3_1 (ji8)) (wrap64 (x4_1 + 1))) = some r := by first|(rw [hji8] at H;exact H)|(simp only [hji8] at H ⊢;exact H)
       have hji8_ : (IntKind.u32.wrap (1 * 2 ^ min (ji6).toNat 32)) = ji8 := hji8
       have hji8z : (ji6) ≤ 32 → (IntKind.u32.wrap (1 * 2 ^ (ji6).toNat)) = ji8 := shl_small hji8
       have hji8u : (IntKind.u32.wrap (2 ^ min (ji6).toNat 32)) = ji8 := by have h_ := hji8_;rw [Int.one_mul] at h_;exact h_
       have hji8v : (ji6) ≤ 32 → (IntKind.u32.wrap (2 ^ (ji6).toNat)) = ji8 := fun hle_ => by have h_ := hji8z hle_;rw [Int.one_mul] at h_;exact h_
       have H' := Aside0.mk H
       clear H
       go_wp2
       go_roundg k1
       case measure => have := HK1.out; omega
       case rel => exact ⟨(Go.bits .or .u32 x3_1 (ji8)),(wrap64 (x4_1 + 1)),(by first|rfl|(simp;done)|(simp only [← hji8] <;> (first|rfl|simp))|(simp [*];done)),(by first|rfl|(simp;done)|(simp [*];done)),H',⟨by have := HK1.out;omega⟩,by repeat (first|exact Drawn0.refl _|apply Drawn0.step)⟩
      ·rw [if_neg c7] at H
       exact absurd H (by simp)
     ·rw [if_neg c5] at H
      have c5b0 : ((Go.bits .and .u32 (ji4) 1) == 1) = false := beq_eq_false_iff_ne.mpr c5
      have c5b1 : ((Go.bits .and .u32 (ji4) 1) != 1) = true := bne_iff_ne.mpr c5
      have H' := Aside0.mk H
      clear H
      go_wp2
      go_roundg k1
      case measure => have := HK1.out; omega
      case rel => exact ⟨(x3_1),(wrap64 (x4_1 + 1)),(by first|rfl|(simp;done)|(simp [*];done)),(by first|rfl|(simp;done)|(simp [*];done)),H',⟨by have := HK1.out;omega⟩,by repeat (first|exact Drawn0.refl _|apply Drawn0.step)⟩
    ·rw [if_neg c3] at H
     exact absurd H (by simp)
   ·rw [if_neg c2] at H
    have c2b0 : decide (x4_1 < 32) = false := decide_eq_false c2
    clear c2
    obtain rfl := Option.some.inj H
    go_wp2
    go_ret
    exact ⟨by first|rfl|(simp;done)|(simp [*];done),by repeat (first|exact Drawn0.refl _|apply Drawn0.step)⟩


/-! ### strakeref01_Add: function 48 -/
mutual
def strakeref01_Add.l0 : Nat → List Int → Int → Int → Option (Int)
 | 0, _, _, _ => none
 | k + 1,x1,x5,x6 => if x6 < (x1.length : Int) then (strakeref01_Add.l1 k x1 x5 x6 0) else ((strakeref01_turned.f k x5).bind fun t209 => (some (Go.bits .xor .u32 4294967295 t209)))
def strakeref01_Add.l1 : Nat → List Int → Int → Int → Int → Option (Int)
 | 0, _, _, _, _ => none
 | k + 1,x1,x5,x6,x7 => if x7 < 8 then (if 0 ≤ x6 then (if x6 < (x1.length : Int) then (if 0 ≤ x7 then (if (x5 / 2147483648) = ((Go.bits .and .u8 (shr .u8 (rd x1 x6) x7) 1) % 4294967296) then (strakeref01_Add.l1 k x1 ((x5 * 2) % 4294967296) x6 (wrap64 (x7 + 1))) else (strakeref01_Add.l1 k x1 (Go.bits .xor .u32 ((x5 * 2) % 4294967296) 79764919) x6 (wrap64 (x7 + 1)))) else (none)) else (none)) else (none)) else (strakeref01_Add.l0 k x1 x5 (wrap64 (x6 + 1)))
end
def strakeref01_Add.f (k : Nat) (a0 : Int) (l1 : List Int) : Option (Int) := (strakeref01_turned.f k (Go.bits .xor .u32 4294967295 a0)).bind fun t208 => (strakeref01_Add.l0 k l1 t208 0)
theorem strakeref01_Add.mono_l : ∀ k,(∀ y0 y1 y2,LeO (strakeref01_Add.l0 k y0 y1 y2) (strakeref01_Add.l0 (k + 1) y0 y1 y2)) ∧ (∀ y0 y1 y2 y3,LeO (strakeref01_Add.l1 k y0 y1 y2 y3) (strakeref01_Add.l1 (k + 1) y0 y1 y2 y3))
 | 0 => ⟨fun _ _ _ r h => by simp [strakeref01_Add.l0] at h, fun _ _ _ _ r h => by simp [strakeref01_Add.l1] at h⟩
 | k + 1 => by
  obtain ⟨ih0, ih1⟩ := strakeref01_Add.mono_l k
  refine ⟨?_, ?_⟩
  ·intro y0 y1 y2
   unfold strakeref01_Add.l0
   repeat' first
   | (with_reducible exact ih0 _ _ _)
   | (with_reducible exact ih1 _ _ _ _)
   | (with_reducible exact strakeref01_turned.mono _ _)
   | (with_reducible exact LeO.refl _)
   | (with_reducible exact LeO.none _)
   | (with_reducible refine LeO.ite ?_ ?_)
   | (with_reducible refine LeO.bind ?_ (fun _ => ?_))
   | exact ih0 _ _ _
   | exact ih1 _ _ _ _
   | exact strakeref01_turned.mono _ _
   | exact LeO.none _
   | refine LeO.ite ?_ ?_
   | refine LeO.bind ?_ (fun _ => ?_)
  ·intro y0 y1 y2 y3
   unfold strakeref01_Add.l1
   repeat' first
   | (with_reducible exact ih0 _ _ _)
   | (with_reducible exact ih1 _ _ _ _)
   | (with_reducible exact strakeref01_turned.mono _ _)
   | (with_reducible exact LeO.refl _)
   | (with_reducible exact LeO.none _)
   | (with_reducible refine LeO.ite ?_ ?_)
   | (with_reducible refine LeO.bind ?_ (fun _ => ?_))
   | exact ih0 _ _ _
   | exact ih1 _ _ _ _
   | exact strakeref01_turned.mono _ _
   | exact LeO.none _
   | refine LeO.ite ?_ ?_
   | refine LeO.bind ?_ (fun _ => ?_)
theorem strakeref01_Add.mono : ∀ a0 a1 k, LeO (strakeref01_Add.f k a0 a1) (strakeref01_Add.f (k + 1) a0 a1) := by
 intro a0 a1 k
 obtain ⟨ih0, ih1⟩ := strakeref01_Add.mono_l k
 unfold strakeref01_Add.f
 repeat' first
   | (with_reducible exact ih0 _ _ _)
   | (with_reducible exact ih1 _ _ _ _)
   | (with_reducible exact strakeref01_turned.mono _ _)
   | (with_reducible exact LeO.refl _)
   | (with_reducible exact LeO.none _)
   | (with_reducible refine LeO.ite ?_ ?_)
   | (with_reducible refine LeO.bind ?_ (fun _ => ?_))
   | exact ih0 _ _ _
   | exact ih1 _ _ _ _
   | exact strakeref01_turned.mono _ _
   | exact LeO.none _
   | refine LeO.ite ?_ ?_
   | refine LeO.bind ?_ (fun _ => ?_)
set_option maxHeartbeats 8000000 in
set_option maxRecDepth 100000 in
theorem strakeref01_Add.calls (k : Nat) (a0 : Int) (A1 : Option Addr) (c1 : Nat) (l1 : List Int) (r : Int) (w : World) (hr1 : Kd.C (Kd.int .u8) w A1 l1.length l1) (hc1 : l1.length ≤ c1) (h : strakeref01_Add.f k a0 l1 = some r) :
  Calls Try.prog 48 #[.int .u32 a0,.slice A1 l1.length c1] w fun e w' => e = .returned (.int .u32 r) ∧ Drawn0 w w' := by
 have HR1 := Aside0.mk hr1
 have HC1 := Aside0.mk hc1
 clear hr1 hc1
 have H : ((strakeref01_turned.f k (Go.bits .xor .u32 4294967295 a0)).bind fun t208 => (strakeref01_Add.l0 k l1 t208 0)) = some r := h
 clear h
 replace H := Option.bind_eq_some_iff.mp H
 obtain ⟨t208, A30, H⟩ := H
 replace H : (strakeref01_Add.l0 k l1 t208 0) = some r := H
 have A3 := Aside0.mk A30
 clear A30
 have H' := Aside0.mk H
 clear H
 go_enter Try.func48, Try.ntmps48
 go_wp2_with (first|((with_reducible refine gate_callee (f := 49) rfl ?_);refine goesL_ (some 11) rfl rfl Try.func49 (by kernel_rfl) rfl #[.int .u32 (Go.bits .xor .u32 4294967295 a0)] rfl (by (try simp only [List.map_toArray,List.map_cons,List.map_nil]);first|done|rfl|(simp only [List.length_drop,List.length_take];rfl)) ?_;(with_reducible refine (strakeref01_turned.calls k (Go.bits .xor .u32 4294967295 a0) t208 _ A3.out).mono ?_);rintro e w' ⟨rfl,⟨nd,rfl⟩⟩;refine ⟨_,rfl,?_⟩))
 go_loopg [5,6] k (fun kq v5 v6 w' => ∃ (x5_1 : Int) (x6_1 : Int),v5 = .int .u32 x5_1 ∧ v6 = .int .i64 x6_1 ∧ Aside0 (strakeref01_Add.l0 kq l1 x5_1 x6_1 = some r) ∧ Aside0 (kq ≤ k) ∧ Drawn0 w w')
 case atStart => exact ⟨(t208),(0),(by first|rfl|(simp;done)|(simp [*];done)),(by first|rfl|(simp;done)|(simp [*];done)),H',⟨Nat.le_refl _⟩,by repeat (first|exact Drawn0.refl _|apply Drawn0.step)⟩
 case round =>
  clear H'
  try clear c1
  try clear p2
  obtain ⟨x5_1, x6_1, rfl, rfl, HA, HK1, ⟨m1, rfl⟩⟩ := hrel
  cases gk with
  | zero => exact absurd HA.out (by simp [strakeref01_Add.l0])
  | succ k1 =>
   have H := HA.out
   clear HA
   simp only [strakeref01_Add.l0] at H
   by_cases c4 : x6_1 < (l1.length : Int)
   ·rw [if_pos c4] at H
    have c4b0 : decide (x6_1 < (l1.length : Int)) = true := decide_eq_true c4
    clear c4
    have H' := Aside0.mk H
    clear H
    go_wp2
    go_loopg [5,7] k1 (fun kq v5 v7 w' => ∃ (x5_2 : Int) (x7_2 : Int),v5 = .int .u32 x5_2 ∧ v7 = .int .i64 x7_2 ∧ Aside0 (strakeref01_Add.l1 kq l1 x5_2 x6_1 x7_2 = some r) ∧ Aside0 (kq ≤ k1) ∧ Drawn0 w w')
    case atStart => exact ⟨(x5_1),(0),(by first|rfl|(simp;done)|(simp [*];done)),(by first|rfl|(simp;done)|(simp [*];done)),H',⟨Nat.le_refl _⟩,by repeat (first|exact Drawn0.refl _|apply Drawn0.step)⟩
    case round =>
     clear H'
     try clear c1
     try clear p2
     try clear c4
     try clear c4b0
     try clear p2
     obtain ⟨x5_2, x7_2, rfl, rfl, HA, HK2, ⟨m2, rfl⟩⟩ := hrel
     cases gk with
     | zero => exact absurd HA.out (by simp [strakeref01_Add.l1])
     | succ k2 =>
      have H := HA.out
      clear HA
      simp only [strakeref01_Add.l1] at H
      by_cases c5 : x7_2 < 8
      ·rw [if_pos c5] at H
       have c5b0 : decide (x7_2 < 8) = true := decide_eq_true c5
       clear c5
       by_cases c6 : 0 ≤ x6_1
       ·rw [if_pos c6] at H
        have c6b0 : decide (0 ≤ x6_1) = true := decide_eq_true c6
        clear c6
        by_cases c7 : x6_1 < (l1.length : Int)
        ·rw [if_pos c7] at H
         have c7b0 : decide (x6_1 < (l1.length : Int)) = true := decide_eq_true c7
         clear c7
         by_cases c8 : 0 ≤ x7_2
         ·rw [if_pos c8] at H
          have c8b0 := eq_true c8
          have c8b1 : decide (0 ≤ x7_2) = true := decide_eq_true c8
          clear c8
          obtain ⟨ji9, hji9⟩ : ∃ j_ : Int, (shr .u8 (rd l1 x6_1) x7_2) = j_ := ⟨_, rfl⟩
          replace H : (if (x5_2 / 2147483648) = ((Go.bits .and .u8 (ji9) 1) % 4294967296) then (strakeref01_Add.l1 k2 l1 ((x5_2 * 2) % 4294967296) x6_1 (wrap64 (x7_2 + 1))) else (strakeref01_Add.l1 k2 l1 (Go.bits .xor .u32 ((x5_2 * 2) % 4294967296) 79764919) x6_1 (wrap64 (x7_2 + 1)))) = some r := by first|(rw [hji9] at H;exact H)|(simp only [hji9] at H ⊢;exact H)
          have hji9_ : ((rd l1 x6_1) / 2 ^ min x7_2.toNat 8) = ji9 := hji9
          have hji9z : x7_2 ≤ 8 → ((rd l1 x6_1) / 2 ^ x7_2.toNat) = ji9 := shr_small hji9
          by_cases c10 : (x5_2 / 2147483648) = ((Go.bits .and .u8 (ji9) 1) % 4294967296)
          ·rw [if_pos c10] at H
           have c10b0 : ((x5_2 / 2147483648) == ((Go.bits .and .u8 (ji9) 1) % 4294967296)) = true := beq_iff_eq.mpr c10
           have c10b1 : ((x5_2 / 2147483648) != ((Go.bits .and .u8 (ji9) 1) % 4294967296)) = false := bne_eq_false_iff_eq.mpr c10
           clear c10
           have H' := Aside0.mk H
           clear H
           have p210 : 0 ≤ (x6_1 : Int) := of_decide_eq_true (by first | (with_reducible assumption) | assumption)
           have q210 : x6_1 < (l1.length : Int) := of_decide_eq_true (by first|(with_reducible assumption)|assumption)
           obtain ⟨ad210, e210, hx210_0⟩ := Kd.at_int HR1.out x6_1 p210 q210
           cases e210
           replace p210 := eq_true p210
           replace q210 := eq_true q210
           go_wp2
           go_roundg k2
           case measure => have := HK1.out; have := HK2.out; omega
           case rel => exact ⟨((x5_2 * 2) % 4294967296),(wrap64 (x7_2 + 1)),(by first|rfl|(simp;done)|(simp [*];done)),(by first|rfl|(simp;done)|(simp [*];done)),H',⟨by have := HK1.out;have := HK2.out;omega⟩,by repeat (first|exact Drawn0.refl _|apply Drawn0.step)⟩
          ·rw [if_neg c10] at H
           have c10b0 : ((x5_2 / 2147483648) == ((Go.bits .and .u8 (ji9) 1) % 4294967296)) = false := beq_eq_false_iff_ne.mpr c10
           have c10b1 : ((x5_2 / 2147483648) != ((Go.bits .and .u8 (ji9) 1) % 4294967296)) = true := bne_iff_ne.mpr c10
           have H' := Aside0.mk H
           clear H
           have p210 : 0 ≤ (x6_1 : Int) := of_decide_eq_true (by first | (with_reducible assumption) | assumption)
           have q210 : x6_1 < (l1.length : Int) := of_decide_eq_true (by first|(with_reducible assumption)|assumption)
           obtain ⟨ad210, e210, hx210_0⟩ := Kd.at_int HR1.out x6_1 p210 q210
           cases e210
           replace p210 := eq_true p210
           replace q210 := eq_true q210
           go_wp2
           go_roundg k2
           case measure => have := HK1.out; have := HK2.out; omega
           case rel => exact ⟨(Go.bits .xor .u32 ((x5_2 * 2) % 4294967296) 79764919),(wrap64 (x7_2 + 1)),(by first|rfl|(simp;done)|(simp [*];done)),(by first|rfl|(simp;done)|(simp [*];done)),H',⟨by have := HK1.out;have := HK2.out;omega⟩,by repeat (first|exact Drawn0.refl _|apply Drawn0.step)⟩
         ·rw [if_neg c8] at H
          exact absurd H (by simp)
        ·rw [if_neg c7] at H
         exact absurd H (by simp)
       ·rw [if_neg c6] at H
        exact absurd H (by simp)
      ·rw [if_neg c5] at H
       have c5b0 : decide (x7_2 < 8) = false := decide_eq_false c5
       clear c5
       have H' := Aside0.mk H
       clear H
       go_wp2
       go_roundg k2
       case measure => have := HK1.out; have := HK2.out; omega
       case rel => exact ⟨(x5_2),(wrap64 (x6_1 + 1)),(by first|rfl|(simp;done)|(simp [*];done)),(by first|rfl|(simp;done)|(simp [*];done)),H',⟨by have := HK1.out;have := HK2.out;omega⟩,by repeat (first|exact Drawn0.refl _|apply Drawn0.step)⟩
   ·rw [if_neg c4] at H
    have c4b0 : decide (x6_1 < (l1.length : Int)) = false := decide_eq_false c4
    clear c4
    replace H := Option.bind_eq_some_iff.mp H
    obtain ⟨t209, A110, H⟩ := H
    replace H : (some (Go.bits .xor .u32 4294967295 t209)) = some r := H
    have A11 := Aside0.mk A110
    clear A110
    obtain rfl := Option.some.inj H
    go_wp2_with (first|((with_reducible refine gate_callee (f := 49) rfl ?_);refine goesL_ (some 39) rfl rfl Try.func49 (by kernel_rfl) rfl #[.int .u32 x5_1] rfl (by (try simp only [List.map_toArray,List.map_cons,List.map_nil]);first|done|rfl|(simp only [List.length_drop,List.length_take];rfl)) ?_;(with_reducible refine (strakeref01_turned.calls k1 x5_1 t209 _ A11.out).mono ?_);rintro e w' ⟨rfl,⟨nd,rfl⟩⟩;refine ⟨_,rfl,?_⟩))
    go_ret
    exact ⟨by first|rfl|(simp;done)|(simp [*];done),by repeat (first|exact Drawn0.refl _|apply Drawn0.step)⟩


/-! ### strakeref01_Sum: function 42 -/
def strakeref01_Sum.f (k : Nat) (l0 : List Int) : Option (Int) := (strakeref01_Add.f k 0 l0).bind fun t211 => (some t211)
theorem strakeref01_Sum.mono : ∀ a0 k, LeO (strakeref01_Sum.f k a0) (strakeref01_Sum.f (k + 1) a0) := by
 intro a0 k
 unfold strakeref01_Sum.f
 repeat' first
   | (with_reducible exact strakeref01_Add.mono _ _ _)
   | (with_reducible exact LeO.refl _)
   | (with_reducible exact LeO.none _)
   | (with_reducible refine LeO.ite ?_ ?_)
   | (with_reducible refine LeO.bind ?_ (fun _ => ?_))
   | exact strakeref01_Add.mono _ _ _
   | exact LeO.none _
   | refine LeO.ite ?_ ?_
   | refine LeO.bind ?_ (fun _ => ?_)
set_option maxHeartbeats 8000000 in
set_option maxRecDepth 100000 in
theorem strakeref01_Sum.calls (k : Nat) (A0 : Option Addr) (c0 : Nat) (l0 : List Int) (r : Int) (w : World) (hr0 : Kd.C (Kd.int .u8) w A0 l0.length l0) (hc0 : l0.length ≤ c0) (h : strakeref01_Sum.f k l0 = some r) :
  Calls Try.prog 42 #[.slice A0 l0.length c0] w fun e w' => e = .returned (.int .u32 r) ∧ Drawn0 w w' := by
 have HR0 := Aside0.mk hr0
 have HC0 := Aside0.mk hc0
 clear hr0 hc0
 have H : ((strakeref01_Add.f k 0 l0).bind fun t211 => (some t211)) = some r := h
 clear h
 replace H := Option.bind_eq_some_iff.mp H
 obtain ⟨t211, A20, H⟩ := H
 replace H : (some t211) = some r := H
 have A2 := Aside0.mk A20
 clear A20
 obtain rfl := Option.some.inj H
 go_enter Try.func42, Try.ntmps42
 go_wp2_with (first|((with_reducible refine gate_callee (f := 48) rfl ?_);refine goesL_ (some 4) rfl rfl Try.func48 (by kernel_rfl) rfl #[.int .u32 0,.slice A0 l0.length c0] rfl (by (try simp only [List.map_toArray,List.map_cons,List.map_nil]);first|done|rfl|(simp only [List.length_drop,List.length_take];rfl)) ?_;(with_reducible refine (strakeref01_Add.calls k 0 _ _ l0 t211 _ ?side1 ?side2 A2.out).mono ?_);(case side1 => repeat (first|exact HR0.out|(with_reducible refine Kd.C_alloc ?_ _)|(with_reducible refine Kd.C_drewN ?_ _)|(with_reducible refine Kd.C_drew ?_)));(case side2 => exact HC0.out);rintro e w' ⟨rfl,⟨nd,rfl⟩⟩;refine ⟨_,rfl,?_⟩))
 go_ret
 exact ⟨by first | rfl | (simp; done) | (simp [*]; done), by repeat (first | exact Drawn0.refl _ | apply Drawn0.step)⟩


/-! ### strakeref05_Pack: function 25 -/
def strakeref05_Pack.j0 : Nat → List Int → Bool → Int → Int → Int → Option (List Int × Int)
 | 0, _, _, _, _, _ => none
 | k + 1,x1,x15,x213000,x213001,x213002 => if x15 = true then (some (([] : List Int),1)) else ((strakeref05_front.f k x213000 x213001 x213002).bind fun t214 => ((some (([] : List Int) : List Int)).bind fun y217 => (if y217.length + t214.length < 140737488355328 then ((some (y217 ++ t214 : List Int)).bind fun y220 => (if y220.length + x1.length < 140737488355328 then ((strakeref01_Sum.f k (y220 ++ x1)).bind fun t226 => ((strakeref02_Fixed.f k t226).bind fun t227 => (if t214.length + t227.length < 140737488355328 then (some ((t214 ++ t227),0)) else (none)))) else (none))) else (none))))
def strakeref05_Pack.f (k : Nat) (a0_0 : Int) (a0_1 : Int) (a0_2 : Int) (l1 : List Int) : Option (List Int × Int) := (strakeref05_Right.f a0_0 a0_1 a0_2).bind fun t213 => (if t213 = true then (strakeref05_Pack.j0 k l1 ((l1.length : Int) != 16) a0_0 a0_1 a0_2) else (strakeref05_Pack.j0 k l1 true a0_0 a0_1 a0_2))
theorem strakeref05_Pack.mono_l : ∀ k,(∀ y0 y1 y2 y3 y4,LeO (strakeref05_Pack.j0 k y0 y1 y2 y3 y4) (strakeref05_Pack.j0 (k + 1) y0 y1 y2 y3 y4))
 | 0 => fun _ _ _ _ _ r h => by simp [strakeref05_Pack.j0] at h
 | k + 1 => by
  have ih0 := strakeref05_Pack.mono_l k
  ·intro y0 y1 y2 y3 y4
   unfold strakeref05_Pack.j0
   repeat' first
   | (with_reducible exact ih0 _ _ _ _ _)
   | (with_reducible exact strakeref01_Sum.mono _ _)
   | (with_reducible exact strakeref02_Fixed.mono _ _)
   | (with_reducible exact strakeref05_front.mono _ _ _ _)
   | (with_reducible exact LeO.refl _)
   | (with_reducible exact LeO.none _)
   | (with_reducible refine LeO.ite ?_ ?_)
   | (with_reducible refine LeO.bind ?_ (fun _ => ?_))
   | exact ih0 _ _ _ _ _
   | exact strakeref01_Sum.mono _ _
   | exact strakeref02_Fixed.mono _ _
   | exact strakeref05_front.mono _ _ _ _
   | exact LeO.none _
   | refine LeO.ite ?_ ?_
   | refine LeO.bind ?_ (fun _ => ?_)
theorem strakeref05_Pack.mono : ∀ a0 a1 a2 a3 k,LeO (strakeref05_Pack.f k a0 a1 a2 a3) (strakeref05_Pack.f (k + 1) a0 a1 a2 a3) := by
 intro a0 a1 a2 a3 k
 have ih0 := strakeref05_Pack.mono_l k
 unfold strakeref05_Pack.f
 repeat' first
   | (with_reducible exact ih0 _ _ _ _ _)
   | (with_reducible exact strakeref01_Sum.mono _ _)
   | (with_reducible exact strakeref02_Fixed.mono _ _)
   | (with_reducible exact strakeref05_front.mono _ _ _ _)
   | (with_reducible exact LeO.refl _)
   | (with_reducible exact LeO.none _)
   | (with_reducible refine LeO.ite ?_ ?_)
   | (with_reducible refine LeO.bind ?_ (fun _ => ?_))
   | exact ih0 _ _ _ _ _
   | exact strakeref01_Sum.mono _ _
   | exact strakeref02_Fixed.mono _ _
   | exact strakeref05_front.mono _ _ _ _
   | exact LeO.none _
   | refine LeO.ite ?_ ?_
   | refine LeO.bind ?_ (fun _ => ?_)
set_option maxHeartbeats 8000000 in
set_option maxRecDepth 100000 in
theorem strakeref05_Pack.calls (k : Nat) (a0_0 : Int) (a0_1 : Int) (a0_2 : Int) (A1 : Option Addr) (c1 : Nat) (l1 : List Int) (r1 : List Int) (r2 : Int) (w : World) (hr1 : Kd.C (Kd.int .u8) w A1 l1.length l1) (hc1 : l1.length ≤ c1) (h : strakeref05_Pack.f k a0_0 a0_1 a0_2 l1 = some (r1,r2)) :
  Calls Try.prog 25 #[.agg #[.int .i64 a0_0,.int .i64 a0_1,.int .i64 a0_2],.slice A1 l1.length c1] w fun e w' => ∃ v0_ : Value,e = .returned (.tuple #[v0_,.int .i64 r2]) ∧ Kd.R (Kd.int .u8) 5 w' w.heap.size (fun _ => True) v0_ r1 ∧ Below w.heap.size w w' := by
 have hu40 := Try.underlying40
 have HR1 := Aside0.mk hr1
 have HC1 := Aside0.mk hc1
 clear hr1 hc1
 have HB := Aside0.mk (Below.refl w.heap.size w)
 have H : ((strakeref05_Right.f a0_0 a0_1 a0_2).bind fun t213 => (if t213 = true then (strakeref05_Pack.j0 k l1 ((l1.length : Int) != 16) a0_0 a0_1 a0_2) else (strakeref05_Pack.j0 k l1 true a0_0 a0_1 a0_2))) = some (r1,r2) := h
 clear h
 have HC3 := Aside0.mk H
 clear H
 go_enter Try.func25, Try.ntmps25
 go_upto_region 1 with (first|((with_reducible refine gate_dst (N := 2) rfl ?_);(try (refine gate_guard (by rfl) ?_;dsimp only));refine box_event ?hg (N := 2) ?hd (cs := #[.int .i64 a0_0,.int .i64 a0_1,.int .i64 a0_2]) (t := 40) ?hr ?_;(case hd => rfl);(case hg => rfl);(case hr => first|(go_simp;done)|(go_simp;rfl));intro gb212 hg w4 hbox hb;have n0_ := Aside0.mk (below_step (by repeat (first|(with_reducible first|exact HB.out|apply below_alloc|apply pw_below_drewN|apply below_drew1)|exact HB.out)) hb);have n1_ := Aside0.mk (hbox);have n2_ := Aside0.mk ((by rw [hg];exact (below_size (by repeat (first|(with_reducible first|exact HB.out|apply below_alloc|apply pw_below_drewN|apply below_drew1)|exact HB.out))) : w.heap.size ≤ gb212));have n3_ := Aside0.mk ((by rw [hg];exact (below_size (by repeat (first|(with_reducible first|exact HB.out|apply below_alloc|apply pw_below_drewN|apply below_drew1)|exact HB.out))) : w.heap.size ≤ gb212));clear HB;have HB := n0_;have BK212 := n1_;have GW212 := n2_;have GE212 := n3_;clear n0_ n1_ n2_ n3_;clear hb hbox hg))
 (try simp only [Act.put, List.setIfInBounds_toArray, List.set_cons_zero, List.set_cons_succ])
 go_cut [15] (fun v15 wc => ∃ (kq : Nat) (x15_2 : Bool),v15 = .bool x15_2 ∧ Aside0 (strakeref05_Pack.j0 kq l1 x15_2 a0_0 a0_1 a0_2 = some (r1,r2)) ∧ Aside0 (kq ≤ k) ∧ Aside0 (wc.heap[gb212]? = some (.cells #[.int .i64 a0_0,.int .i64 a0_1,.int .i64 a0_2] 40 (0,0))) ∧ Aside0 (Below w.heap.size w wc))
 case first =>
  have H := HC3.out
  clear HC3
  replace H := Option.bind_eq_some_iff.mp H
  obtain ⟨t213, A50, H⟩ := H
  replace H : (if t213 = true then (strakeref05_Pack.j0 k l1 ((l1.length : Int) != 16) a0_0 a0_1 a0_2) else (strakeref05_Pack.j0 k l1 true a0_0 a0_1 a0_2)) = some (r1,r2) := H
  have A5 := Aside0.mk A50
  clear A50
  by_cases c6 : t213 = true
  ·subst c6
   have H1 : (strakeref05_Pack.j0 k l1 ((l1.length : Int) != 16) a0_0 a0_1 a0_2) = some (r1,r2) := by rw [if_pos rfl] at H;exact H
   clear H
   have H := H1
   clear H1
   have H' := Aside0.mk H
   clear H
   have hcz7_0 : w4.cell? ⟨gb212, 0, none⟩ = some (.int .i64 a0_0) := (blk_cell BK212.out 0).trans rfl
   have hcz7_1 : w4.cell? ⟨gb212, 1, none⟩ = some (.int .i64 a0_1) := (blk_cell BK212.out 1).trans rfl
   have hcz7_2 : w4.cell? ⟨gb212, 2, none⟩ = some (.int .i64 a0_2) := (blk_cell BK212.out 2).trans rfl
   have hfz7_0 := blk_frozen BK212.out 0
   have hfz7_1 := blk_frozen BK212.out 1
   have hfz7_2 := blk_frozen BK212.out 2
   go_wp2_with (first|((with_reducible refine gate_callee (f := 40) rfl ?_);refine goesL_ (some 9) rfl rfl Try.func40 (by kernel_rfl) rfl #[.agg #[.int .i64 a0_0,.int .i64 a0_1,.int .i64 a0_2]] rfl (by (try simp only [List.map_toArray,List.map_cons,List.map_nil]);first|done|rfl|(simp only [List.length_drop,List.length_take];rfl)) ?_;(with_reducible refine (strakeref05_Right.calls a0_0 a0_1 a0_2 true _ A5.out).mono ?_);rintro e w8 ⟨rfl,hb⟩;refine ⟨_,rfl,?_⟩;have n0_ := Aside0.mk (blk_below (g := gb212) (o := .cells #[.int .i64 a0_0,.int .i64 a0_1,.int .i64 a0_2] 40 (0,0)) (by (with_reducible repeat (first|refine blk_drewN ?_ _|refine blk_drew ?_|refine blk_alloc ?_ _));exact BK212.out) hb);have n1_ := Aside0.mk (below_step (by repeat (first|(with_reducible first|exact HB.out|apply below_alloc|apply pw_below_drewN|apply below_drew1|refine below_set ?_ GE212.out)|exact HB.out)) hb);clear BK212;clear HB;have BK212 := n0_;have HB := n1_;clear n0_ n1_;(try clear hb);(try clear hb2);(try clear hk);(try clear hi)))
   go_meet
   case rel => exact ⟨_,(((l1.length : Int) != 16)),(by first|rfl|(simp;done)|(simp [*];done)),H',⟨by first|omega|exact Nat.le_refl _⟩,⟨by (with_reducible repeat (first|refine blk_drewN ?_ _|refine blk_drew ?_|refine blk_alloc ?_ _));exact BK212.out⟩,⟨by repeat (first|(with_reducible first|exact HB.out|apply below_alloc|apply pw_below_drewN|apply below_drew1|refine below_set ?_ GE212.out)|exact HB.out)⟩⟩
  ·replace c6 := Bool.eq_false_iff.mpr c6
   subst c6
   have H1 : (strakeref05_Pack.j0 k l1 true a0_0 a0_1 a0_2) = some (r1,r2) := by rw [if_neg (show ¬ (false = true) by decide)] at H;exact H
   clear H
   have H := H1
   clear H1
   have H' := Aside0.mk H
   clear H
   have hcz9_0 : w4.cell? ⟨gb212, 0, none⟩ = some (.int .i64 a0_0) := (blk_cell BK212.out 0).trans rfl
   have hcz9_1 : w4.cell? ⟨gb212, 1, none⟩ = some (.int .i64 a0_1) := (blk_cell BK212.out 1).trans rfl
   have hcz9_2 : w4.cell? ⟨gb212, 2, none⟩ = some (.int .i64 a0_2) := (blk_cell BK212.out 2).trans rfl
   have hfz9_0 := blk_frozen BK212.out 0
   have hfz9_1 := blk_frozen BK212.out 1
   have hfz9_2 := blk_frozen BK212.out 2
   go_wp2_with (first|((with_reducible refine gate_callee (f := 40) rfl ?_);refine goesL_ (some 9) rfl rfl Try.func40 (by kernel_rfl) rfl #[.agg #[.int .i64 a0_0,.int .i64 a0_1,.int .i64 a0_2]] rfl (by (try simp only [List.map_toArray,List.map_cons,List.map_nil]);first|done|rfl|(simp only [List.length_drop,List.length_take];rfl)) ?_;(with_reducible refine (strakeref05_Right.calls a0_0 a0_1 a0_2 false _ A5.out).mono ?_);rintro e w10 ⟨rfl,hb⟩;refine ⟨_,rfl,?_⟩;have n0_ := Aside0.mk (blk_below (g := gb212) (o := .cells #[.int .i64 a0_0,.int .i64 a0_1,.int .i64 a0_2] 40 (0,0)) (by (with_reducible repeat (first|refine blk_drewN ?_ _|refine blk_drew ?_|refine blk_alloc ?_ _));exact BK212.out) hb);have n1_ := Aside0.mk (below_step (by repeat (first|(with_reducible first|exact HB.out|apply below_alloc|apply pw_below_drewN|apply below_drew1|refine below_set ?_ GE212.out)|exact HB.out)) hb);clear BK212;clear HB;have BK212 := n0_;have HB := n1_;clear n0_ n1_;(try clear hb);(try clear hb2);(try clear hk);(try clear hi)))
   go_meet
   case rel => exact ⟨_,(true),(by first|rfl|(simp;done)|(simp [*];done)),H',⟨by first|omega|exact Nat.le_refl _⟩,⟨by (with_reducible repeat (first|refine blk_drewN ?_ _|refine blk_drew ?_|refine blk_alloc ?_ _));exact BK212.out⟩,⟨by repeat (first|(with_reducible first|exact HB.out|apply below_alloc|apply pw_below_drewN|apply below_drew1|refine below_set ?_ GE212.out)|exact HB.out)⟩⟩
 case rest =>
  clear HC3
  try clear c1
  try clear c2
  try clear p2
  try clear c4
  try clear c6
  try clear hcz7_0
  try clear hcz7_1
  try clear hcz7_2
  try clear hcz9_0
  try clear hcz9_1
  try clear hcz9_2
  try clear hfz7_0
  try clear hfz7_1
  try clear hfz7_2
  try clear hfz9_0
  try clear hfz9_1
  try clear hfz9_2
  obtain ⟨kq, x15_2, rfl, HA, HJ2, BK212, HB⟩ := hcut
  cases kq with
  | zero => exact absurd HA.out (by simp [strakeref05_Pack.j0])
  | succ kj2 =>
   have H := HA.out
   clear HA
   simp only [strakeref05_Pack.j0] at H
   by_cases c11 : x15_2 = true
   ·subst c11
    have H1 : (some (([] : List Int), 1)) = some (r1, r2) := by rw [if_pos rfl] at H; exact H
    clear H
    have H := H1
    clear H1
    simp only [Option.some.injEq, Prod.mk.injEq] at H
    obtain ⟨rfl, rfl⟩ := H
    go_wp2
    go_ret2
    exact ⟨_,by first|rfl|(simp [errW_none,errW_some] <;> rfl)|(simp [*,errW_none,errW_some] <;> rfl),by first|exact Kd.R_nil _ _ _ _ _|exact Kd.N_nil _ _ _ _ _|exact Kd.V_nil _ _ _ _ _|exact Kd.Q_nil _ _ _ _ _|exact Kd.S_nil _ _ _ _ _,by repeat (first|(with_reducible first|exact HB.out|apply below_alloc|apply pw_below_drewN|apply below_drew1|refine below_set ?_ GE212.out)|exact HB.out)⟩
   ·replace c11 := Bool.eq_false_iff.mpr c11
    subst c11
    have H1 : ((strakeref05_front.f kj2 a0_0 a0_1 a0_2).bind fun t214 => ((some (([] : List Int) : List Int)).bind fun y217 => (if y217.length + t214.length < 140737488355328 then ((some (y217 ++ t214 : List Int)).bind fun y220 => (if y220.length + l1.length < 140737488355328 then ((strakeref01_Sum.f kj2 (y220 ++ l1)).bind fun t226 => ((strakeref02_Fixed.f kj2 t226).bind fun t227 => (if t214.length + t227.length < 140737488355328 then (some ((t214 ++ t227),0)) else (none)))) else (none))) else (none)))) = some (r1,r2) := by rw [if_neg (show ¬ (false = true) by decide)] at H;exact H
    clear H
    have H := H1
    clear H1
    replace H := Option.bind_eq_some_iff.mp H
    obtain ⟨t214, A120, H⟩ := H
    replace H : ((some (([] : List Int) : List Int)).bind fun y217 => (if y217.length + t214.length < 140737488355328 then ((some (y217 ++ t214 : List Int)).bind fun y220 => (if y220.length + l1.length < 140737488355328 then ((strakeref01_Sum.f kj2 (y220 ++ l1)).bind fun t226 => ((strakeref02_Fixed.f kj2 t226).bind fun t227 => (if t214.length + t227.length < 140737488355328 then (some ((t214 ++ t227),0)) else (none)))) else (none))) else (none))) = some (r1,r2) := H
    have A12 := Aside0.mk A120
    clear A120
    obtain ⟨y217, hy217⟩ : ∃ y_ : List Int, y_ = (([] : List Int)) := ⟨_, rfl⟩
    replace H : (if y217.length + t214.length < 140737488355328 then ((some (y217 ++ t214 : List Int)).bind fun y220 => (if y220.length + l1.length < 140737488355328 then ((strakeref01_Sum.f kj2 (y220 ++ l1)).bind fun t226 => ((strakeref02_Fixed.f kj2 t226).bind fun t227 => (if t214.length + t227.length < 140737488355328 then (some ((t214 ++ t227),0)) else (none)))) else (none))) else (none)) = some (r1,r2) := by first|(rw [hy217];with_reducible exact H)|(have H2_ := (Option.bind_some _ _).symm.trans H;rw [hy217];with_reducible exact H2_)|(have H2_ := (Option.bind_some _ _).symm.trans H;with_reducible exact H2_)|with_reducible exact H|(rw [hy217];exact H)|exact H
    have Ny217 := Aside0.mk hy217
    clear hy217
    by_cases c13 : y217.length + t214.length < 140737488355328
    ·rw [if_pos c13] at H
     have LMc13 := Aside0.mk c13
     clear c13
     obtain ⟨y220, hy220⟩ : ∃ y_ : List Int, y_ = (y217 ++ t214) := ⟨_, rfl⟩
     replace H : (if y220.length + l1.length < 140737488355328 then ((strakeref01_Sum.f kj2 (y220 ++ l1)).bind fun t226 => ((strakeref02_Fixed.f kj2 t226).bind fun t227 => (if t214.length + t227.length < 140737488355328 then (some ((t214 ++ t227),0)) else (none)))) else (none)) = some (r1,r2) := by first|(rw [hy220];with_reducible exact H)|(have H2_ := (Option.bind_some _ _).symm.trans H;rw [hy220];with_reducible exact H2_)|(have H2_ := (Option.bind_some _ _).symm.trans H;with_reducible exact H2_)|with_reducible exact H|(rw [hy220];exact H)|exact H
     have Ny220 := Aside0.mk hy220
     clear hy220
     by_cases c14 : y220.length + l1.length < 140737488355328
     ·rw [if_pos c14] at H
      have LMc14 := Aside0.mk c14
      clear c14
      obtain ⟨y223, hy223⟩ : ∃ y_ : List Int, y_ = (y220 ++ l1) := ⟨_, rfl⟩
      replace H : ((strakeref01_Sum.f kj2 y223).bind fun t226 => ((strakeref02_Fixed.f kj2 t226).bind fun t227 => (if t214.length + t227.length < 140737488355328 then (some ((t214 ++ t227),0)) else (none)))) = some (r1,r2) := by first|(rw [hy223];with_reducible exact H)|(have H2_ := (Option.bind_some _ _).symm.trans H;rw [hy223];with_reducible exact H2_)|(have H2_ := (Option.bind_some _ _).symm.trans H;with_reducible exact H2_)|with_reducible exact H|(rw [hy223];exact H)|exact H
      have Ny223 := Aside0.mk hy223
      clear hy223
      replace H := Option.bind_eq_some_iff.mp H
      obtain ⟨t226, A150, H⟩ := H
      replace H : ((strakeref02_Fixed.f kj2 t226).bind fun t227 => (if t214.length + t227.length < 140737488355328 then (some ((t214 ++ t227),0)) else (none))) = some (r1,r2) := H
      have A15 := Aside0.mk A150
      clear A150
      replace H := Option.bind_eq_some_iff.mp H
      obtain ⟨t227, A160, H⟩ := H
      replace H : (if t214.length + t227.length < 140737488355328 then (some ((t214 ++ t227),0)) else (none)) = some (r1,r2) := H
      have A16 := Aside0.mk A160
      clear A160
      by_cases c17 : t214.length + t227.length < 140737488355328
      ·rw [if_pos c17] at H
       have LMc17 := Aside0.mk c17
       clear c17
       obtain ⟨y230, hy230⟩ : ∃ y_ : List Int, y_ = (t214 ++ t227) := ⟨_, rfl⟩
       replace H : (some (y230,0)) = some (r1,r2) := by first|(rw [hy230];with_reducible exact H)|(have H2_ := (Option.bind_some _ _).symm.trans H;rw [hy230];with_reducible exact H2_)|(have H2_ := (Option.bind_some _ _).symm.trans H;with_reducible exact H2_)|with_reducible exact H|(rw [hy230];exact H)|exact H
       have Ny230 := Aside0.mk hy230
       clear hy230
       simp only [Option.some.injEq, Prod.mk.injEq] at H
       obtain ⟨rfl, rfl⟩ := H
       have hcz18_0 : wc.cell? ⟨gb212, 0, none⟩ = some (.int .i64 a0_0) := (blk_cell BK212.out 0).trans rfl
       have hcz18_1 : wc.cell? ⟨gb212, 1, none⟩ = some (.int .i64 a0_1) := (blk_cell BK212.out 1).trans rfl
       have hcz18_2 : wc.cell? ⟨gb212, 2, none⟩ = some (.int .i64 a0_2) := (blk_cell BK212.out 2).trans rfl
       have hfz18_0 := blk_frozen BK212.out 0
       have hfz18_1 := blk_frozen BK212.out 1
       have hfz18_2 := blk_frozen BK212.out 2
       go_wp2_with (first|((with_reducible refine gate_callee (f := 41) rfl ?_);refine goesL_ (some 17) rfl rfl Try.func41 (by kernel_rfl) rfl #[.agg #[.int .i64 a0_0,.int .i64 a0_1,.int .i64 a0_2]] rfl (by (try simp only [List.map_toArray,List.map_cons,List.map_nil]);first|done|rfl|(simp only [List.length_drop,List.length_take];rfl)) ?_;(with_reducible refine (strakeref05_front.calls kj2 a0_0 a0_1 a0_2 t214 _ A12.out).mono ?_);rintro e w19 ⟨v215,rfl,ho0,hb⟩;refine ⟨_,rfl,?_⟩;have n0_ := Aside0.mk (Kd.R_lower ho0 (below_size (by repeat (first|(with_reducible first|exact HB.out|apply below_alloc|apply pw_below_drewN|apply below_drew1|refine below_set ?_ GE212.out)|exact HB.out))));have n1_ := Aside0.mk (blk_below (g := gb212) (o := .cells #[.int .i64 a0_0,.int .i64 a0_1,.int .i64 a0_2] 40 (0,0)) (by (with_reducible repeat (first|refine blk_drewN ?_ _|refine blk_drew ?_|refine blk_alloc ?_ _));exact BK212.out) hb);have n2_ := Aside0.mk (below_step (by repeat (first|(with_reducible first|exact HB.out|apply below_alloc|apply pw_below_drewN|apply below_drew1|refine below_set ?_ GE212.out)|exact HB.out)) hb);clear BK212;clear HB;have HO216 := n0_;have BK212 := n1_;have HB := n2_;clear n0_ n1_ n2_;(try clear hb);(try clear hb2);(try clear hk);(try clear hi);(try clear ho0))|((with_reducible refine gate_dst (N := 18) rfl ?_);(try (refine gate_guard (by rfl) ?_;dsimp only));refine Kd.R_lit (Kd.int .u8) _ 5 ?hg (N := 18) ?hd (xs := ([] : List Int)) (inner := []) (ok := fun _ => True) (okp := fun _ => True) ?hr ?hp (fun _ hk => hk) trivial (Below.refl _ _) (Nat.le_refl _) (by simp) ?_;(case hd => rfl);(case hg => rfl);(case hr => first|(go_simp;done)|(go_simp;rfl));(case hp => exact (Reps.none _ _));intro v218 w20 ho21 hb hg_ hnew_;clear hg_ hnew_;(first|rw [← Ny217.out] at ho21|(simp only [Int.reduceToNat] at ho21;rw [← Ny217.out] at ho21));have n0_ := Aside0.mk (Kd.R_elder' (by (with_reducible repeat (first|apply Kd.R_alloc|apply Kd.R_drewN|apply Kd.R_drew));exact HO216.out) (Kd.R_base ho21) hb);have n1_ := Aside0.mk (Kd.R_lower (Kd.R_new' ho21 (Kd.R_lt (by (with_reducible repeat (first|apply Kd.R_alloc|apply Kd.R_drewN|apply Kd.R_drew));exact HO216.out))) (below_size (by repeat (first|(with_reducible first|exact HB.out|apply below_alloc|apply pw_below_drewN|apply below_drew1|refine below_set ?_ GE212.out)|exact HB.out))));have n2_ := Aside0.mk (blk_below (g := gb212) (o := .cells #[.int .i64 a0_0,.int .i64 a0_1,.int .i64 a0_2] 40 (0,0)) (by (with_reducible repeat (first|refine blk_drewN ?_ _|refine blk_drew ?_|refine blk_alloc ?_ _));exact BK212.out) hb);have n3_ := Aside0.mk (below_step (by repeat (first|(with_reducible first|exact HB.out|apply below_alloc|apply pw_below_drewN|apply below_drew1|refine below_set ?_ GE212.out)|exact HB.out)) hb);clear HO216;clear BK212;clear HB;have HO216 := n0_;have HO219 := n1_;have BK212 := n2_;have HB := n3_;clear n0_ n1_ n2_ n3_;clear hb ho21;obtain ⟨Ao23,co23,eo23⟩ := Kd.R_slice HO216.out;subst eo23)|((with_reducible refine gate_builtin (b := .append) (xs := #[.tmp 18,.tmp 19]) rfl ?_);(try (refine gate_guard (by rfl) ?_;dsimp only));at_builtin;refine Kd.R_append_rows (Kd.int .u8) (w0 := w) w.heap.size rfl (.tmp 18) (.tmp 19) 36 5 (.int .u8 0) 1 rfl Try.underlying36 info5 rfl (by decide) (by omega) v218 y217 t214 _ _ _ (fun k_ => some k_ ≠ (.slice Ao23 t214.length co23 : Value).ownBlock) (fun _ => False) rfl rfl ?aO ?aR (fun _ _ h => h) (fun _ h => h.elim) ?aF ?aB ?aS ?aL ?_;(case aR => repeat (first|exact (Kd.R_reads' HO216.out).2.2|(with_reducible refine Kd.C_alloc ?_ _)|(with_reducible refine Kd.C_drewN ?_ _)|(with_reducible refine Kd.C_drew ?_)));(case aB => exact (by repeat (first|(with_reducible first|exact HB.out|apply below_alloc|apply pw_below_drewN|apply below_drew1|refine below_set ?_ GE212.out)|exact HB.out)));(case aF => exact (fun k_ hk => Kd.fresh' (Kd.R_lt (by (with_reducible repeat (first|apply Kd.R_alloc|apply Kd.R_drewN|apply Kd.R_drew));exact HO216.out)) k_ hk));(case aO => exact (by (with_reducible repeat (first|apply Kd.R_alloc|apply Kd.R_drewN|apply Kd.R_drew));exact Kd.R_mono HO219.out (fun _ hk => hk.2)));(case aS => exact (below_size (by repeat (first|(with_reducible first|exact HB.out|apply below_alloc|apply pw_below_drewN|apply below_drew1|refine below_set ?_ GE212.out)|exact HB.out))));(case aL => have := LMc13.out;omega);intro v221 w22 ho hb hg hat;rw [← Ny220.out] at ho;have n0_ := Aside0.mk (blk_grown (g := gb212) (o := .cells #[.int .i64 a0_0,.int .i64 a0_1,.int .i64 a0_2] 40 (0,0)) (by (with_reducible repeat (first|refine blk_drewN ?_ _|refine blk_drew ?_|refine blk_alloc ?_ _));exact BK212.out) hg (Kd.R_ne HO219.out BK212.out (by decide)));have n1_ := Aside0.mk (Kd.R_after (ok := (fun _ => True)) (by (with_reducible repeat (first|apply Kd.R_alloc|apply Kd.R_drewN|apply Kd.R_drew));exact HO216.out) hg hat);have n2_ := Aside0.mk (hb);have n3_ := Aside0.mk (ho);clear BK212;clear HO216;clear HB;clear HO219;have BK212 := n0_;have HO216 := n1_;have HB := n2_;have HO222 := n3_;clear n0_ n1_ n2_ n3_;clear ho hb hg hat)|((with_reducible refine gate_builtin (b := .append) (xs := #[.tmp 20,.tmp 21]) rfl ?_);(try (refine gate_guard (by rfl) ?_;dsimp only));at_builtin;refine Kd.R_append_rows (Kd.int .u8) (w0 := w) w.heap.size rfl (.tmp 20) (.tmp 21) 36 5 (.int .u8 0) 1 rfl Try.underlying36 info5 rfl (by decide) (by omega) v221 y220 l1 _ _ _ (fun k_ => some k_ ≠ (.slice Ao23 t214.length co23 : Value).ownBlock) (fun _ => False) rfl rfl ?aO ?aR (fun _ _ h => h) (fun _ h => h.elim) ?aF ?aB ?aS ?aL ?_;(case aR => repeat (first|exact (Kd.C_below HR1.out HB.out)|(with_reducible refine Kd.C_alloc ?_ _)|(with_reducible refine Kd.C_drewN ?_ _)|(with_reducible refine Kd.C_drew ?_)));(case aB => exact (by repeat (first|(with_reducible first|exact HB.out|apply below_alloc|apply pw_below_drewN|apply below_drew1|refine below_set ?_ GE212.out)|exact HB.out)));(case aF => exact (fun k_ hk => Kd.fresh' (Kd.R_lt (by (with_reducible repeat (first|apply Kd.R_alloc|apply Kd.R_drewN|apply Kd.R_drew));exact HO216.out)) k_ hk));(case aO => exact (by (with_reducible repeat (first|apply Kd.R_alloc|apply Kd.R_drewN|apply Kd.R_drew));exact HO222.out));(case aS => exact (below_size (by repeat (first|(with_reducible first|exact HB.out|apply below_alloc|apply pw_below_drewN|apply below_drew1|refine below_set ?_ GE212.out)|exact HB.out))));(case aL => have := LMc14.out;omega);intro v224 w24 ho hb hg hat;rw [← Ny223.out] at ho;have n0_ := Aside0.mk (blk_grown (g := gb212) (o := .cells #[.int .i64 a0_0,.int .i64 a0_1,.int .i64 a0_2] 40 (0,0)) (by (with_reducible repeat (first|refine blk_drewN ?_ _|refine blk_drew ?_|refine blk_alloc ?_ _));exact BK212.out) hg (Kd.R_ne HO222.out BK212.out (by decide)));have n1_ := Aside0.mk (Kd.R_after (ok := (fun _ => True)) (by (with_reducible repeat (first|apply Kd.R_alloc|apply Kd.R_drewN|apply Kd.R_drew));exact HO216.out) hg hat);have n2_ := Aside0.mk (hb);have n3_ := Aside0.mk (ho);clear BK212;clear HO216;clear HB;clear HO222;have BK212 := n0_;have HO216 := n1_;have HB := n2_;have HO225 := n3_;clear n0_ n1_ n2_ n3_;clear ho hb hg hat;obtain ⟨Ao25,co25,eo25⟩ := Kd.R_slice HO225.out;subst eo25)|((with_reducible refine gate_callee (f := 42) rfl ?_);refine goesL_ (some 23) rfl rfl Try.func42 (by kernel_rfl) rfl #[.slice Ao25 y223.length co25] rfl (by (try simp only [List.map_toArray,List.map_cons,List.map_nil]);first|done|rfl|(simp only [List.length_drop,List.length_take];rfl)) ?_;(with_reducible refine (strakeref01_Sum.calls kj2 _ _ y223 t226 _ ?side1 ?side2 A15.out).mono ?_);(case side1 => repeat (first|exact (Kd.R_reads' HO225.out).2.2|(with_reducible refine Kd.C_alloc ?_ _)|(with_reducible refine Kd.C_drewN ?_ _)|(with_reducible refine Kd.C_drew ?_)));(case side2 => exact (Kd.R_reads' HO225.out).2.1);rintro e w' ⟨rfl,⟨nd,rfl⟩⟩;refine ⟨_,rfl,?_⟩)|((with_reducible refine gate_callee (f := 43) rfl ?_);refine goesL_ (some 26) rfl rfl Try.func43 (by kernel_rfl) rfl #[.int .u32 t226] rfl (by (try simp only [List.map_toArray,List.map_cons,List.map_nil]);first|done|rfl|(simp only [List.length_drop,List.length_take];rfl)) ?_;(with_reducible refine (strakeref02_Fixed.calls kj2 t226 t227 _ A16.out).mono ?_);rintro e w26 ⟨v228,rfl,ho0,hb⟩;refine ⟨_,rfl,?_⟩;have n0_ := Aside0.mk (Kd.R_elder' (by (with_reducible repeat (first|apply Kd.R_alloc|apply Kd.R_drewN|apply Kd.R_drew));exact HO216.out) (Kd.R_base ho0) hb);have n1_ := Aside0.mk (Kd.R_elder' (by (with_reducible repeat (first|apply Kd.R_alloc|apply Kd.R_drewN|apply Kd.R_drew));exact HO225.out) (Kd.R_base ho0) hb);have n2_ := Aside0.mk (Kd.R_lower (Kd.R_new' (Kd.R_new' ho0 (Kd.R_lt (by (with_reducible repeat (first|apply Kd.R_alloc|apply Kd.R_drewN|apply Kd.R_drew));exact HO216.out))) (Kd.R_lt (by (with_reducible repeat (first|apply Kd.R_alloc|apply Kd.R_drewN|apply Kd.R_drew));exact HO225.out))) (below_size (by repeat (first|(with_reducible first|exact HB.out|apply below_alloc|apply pw_below_drewN|apply below_drew1|refine below_set ?_ GE212.out)|exact HB.out))));have n3_ := Aside0.mk (blk_below (g := gb212) (o := .cells #[.int .i64 a0_0,.int .i64 a0_1,.int .i64 a0_2] 40 (0,0)) (by (with_reducible repeat (first|refine blk_drewN ?_ _|refine blk_drew ?_|refine blk_alloc ?_ _));exact BK212.out) hb);have n4_ := Aside0.mk (below_step (by repeat (first|(with_reducible first|exact HB.out|apply below_alloc|apply pw_below_drewN|apply below_drew1|refine below_set ?_ GE212.out)|exact HB.out)) hb);clear HO216;clear HO225;clear BK212;clear HB;have HO216 := n0_;have HO225 := n1_;have HO229 := n2_;have BK212 := n3_;have HB := n4_;clear n0_ n1_ n2_ n3_ n4_;(try clear hb);(try clear hb2);(try clear hk);(try clear hi);(try clear ho0);obtain ⟨Ao28,co28,eo28⟩ := Kd.R_slice HO229.out;subst eo28)|((with_reducible refine gate_builtin (b := .append) (xs := #[.tmp 24,.tmp 26]) rfl ?_);(try (refine gate_guard (by rfl) ?_;dsimp only));at_builtin;refine Kd.R_append_rows (Kd.int .u8) (w0 := w) w.heap.size rfl (.tmp 24) (.tmp 26) 36 5 (.int .u8 0) 1 rfl Try.underlying36 info5 rfl (by decide) (by omega) (.slice Ao23 t214.length co23) t214 t227 _ _ _ (fun k_ => some k_ ≠ (.slice Ao25 y223.length co25 : Value).ownBlock ∧ some k_ ≠ (.slice Ao28 t227.length co28 : Value).ownBlock) (fun _ => False) rfl rfl ?aO ?aR (fun _ _ h => h) (fun _ h => h.elim) ?aF ?aB ?aS ?aL ?_;(case aR => repeat (first|exact (Kd.R_reads' HO229.out).2.2|(with_reducible refine Kd.C_alloc ?_ _)|(with_reducible refine Kd.C_drewN ?_ _)|(with_reducible refine Kd.C_drew ?_)));(case aB => exact (by repeat (first|(with_reducible first|exact HB.out|apply below_alloc|apply pw_below_drewN|apply below_drew1|refine below_set ?_ GE212.out)|exact HB.out)));(case aF => exact (fun k_ hk => ⟨Kd.fresh' (Kd.R_lt (by (with_reducible repeat (first|apply Kd.R_alloc|apply Kd.R_drewN|apply Kd.R_drew));exact HO225.out)) k_ hk,Kd.fresh' (Kd.R_lt (by (with_reducible repeat (first|apply Kd.R_alloc|apply Kd.R_drewN|apply Kd.R_drew));exact HO229.out)) k_ hk⟩));(case aO => exact (by (with_reducible repeat (first|apply Kd.R_alloc|apply Kd.R_drewN|apply Kd.R_drew));exact Kd.R_mono HO216.out (fun _ hk => ⟨hk.1.2,hk.2⟩)));(case aS => exact (below_size (by repeat (first|(with_reducible first|exact HB.out|apply below_alloc|apply pw_below_drewN|apply below_drew1|refine below_set ?_ GE212.out)|exact HB.out))));(case aL => have := LMc17.out;omega);intro v231 w27 ho hb hg hat;rw [← Ny230.out] at ho;have n0_ := Aside0.mk (blk_grown (g := gb212) (o := .cells #[.int .i64 a0_0,.int .i64 a0_1,.int .i64 a0_2] 40 (0,0)) (by (with_reducible repeat (first|refine blk_drewN ?_ _|refine blk_drew ?_|refine blk_alloc ?_ _));exact BK212.out) hg (Kd.R_ne HO216.out BK212.out (by decide)));have n1_ := Aside0.mk (Kd.R_after (ok := (fun k_ => some k_ ≠ (.slice Ao28 t227.length co28 : Value).ownBlock)) (by (with_reducible repeat (first|apply Kd.R_alloc|apply Kd.R_drewN|apply Kd.R_drew));exact Kd.R_mono HO225.out (fun _ hk => ⟨hk.2,hk.1⟩)) hg hat);have n2_ := Aside0.mk (Kd.R_after (ok := (fun k_ => some k_ ≠ (.slice Ao25 y223.length co25 : Value).ownBlock)) (by (with_reducible repeat (first|apply Kd.R_alloc|apply Kd.R_drewN|apply Kd.R_drew));exact Kd.R_mono HO229.out (fun _ hk => ⟨hk.2,hk.1.2⟩)) hg hat);have n3_ := Aside0.mk (hb);have n4_ := Aside0.mk (ho);clear BK212;clear HO225;clear HO229;clear HB;clear HO216;have BK212 := n0_;have HO225 := n1_;have HO229 := n2_;have HB := n3_;have HO232 := n4_;clear n0_ n1_ n2_ n3_ n4_;clear ho hb hg hat))
       go_ret2
       exact ⟨_,by first|rfl|(simp [errW_none,errW_some] <;> rfl)|(simp [*,errW_none,errW_some] <;> rfl),by (with_reducible repeat (first|apply Kd.R_alloc|apply Kd.R_drewN|apply Kd.R_drew));exact Kd.R_mono HO232.out (fun _ hk => trivial),by repeat (first|(with_reducible first|exact HB.out|apply below_alloc|apply pw_below_drewN|apply below_drew1|refine below_set ?_ GE212.out)|exact HB.out)⟩
      ·rw [if_neg c17] at H
       exact absurd H (by simp)
     ·rw [if_neg c14] at H
      exact absurd H (by simp)
    ·rw [if_neg c13] at H
     exact absurd H (by simp)

end Go.Proofs.Ythoebkkohdfgeaa.X
