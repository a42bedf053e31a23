-- laid by wip/tools/xprint.py (our own changes over the printer)
import Derived.Test.YthoebkkohdfgeaaX0
import Derived.Test.YthoebkkohdfgeaaX17
import Derived.Test.YthoebkkohdfgeaaX1
import Derived.Test.YthoebkkohdfgeaaX13
import Derived.Test.YthoebkkohdfgeaaX16
namespace Go.Proofs.Ythoebkkohdfgeaa.X
open Go.RowKit Go.Proofs.YthoebkkohdfgeaaW.PrintWords Go.Proofs.YthoebkkohdfgeaaW.PrintLast Go.Proofs.YthoebkkohdfgeaaW.PrintMore
attribute [local go_sem] max2_int min2_int max_two min_two max_three min_three max_four min_four   -- for this text's walks alone
set_option linter.unusedVariables false
set_option linter.unusedSimpArgs false

/-! ### strakeref15_Sector: function 26 -/
def strakeref15_Sector.f (a0_0 : Int) (a0_1 : Int) (a0_2 : Int) (l0_3 : List Int) (a0_4 : Int) : Option (List Int) := if a0_0 = 2 then (if 16 ≤ 281474976710656 then (some (List.replicate 16 0)) else (none)) else ((some (([] : List Int) : List Int)).bind fun y237 => (if y237.length + l0_3.length < 140737488355328 then (some (y237 ++ l0_3)) else (none)))
set_option maxHeartbeats 8000000 in
set_option maxRecDepth 100000 in
theorem strakeref15_Sector.calls (a0_0 : Int) (a0_1 : Int) (a0_2 : Int) (A0_3 : Option Addr) (c0_3 : Nat) (l0_3 : List Int) (a0_4 : Int) (r : List Int) (w : World) (hr0_3 : Kd.C (Kd.int .u8) w A0_3 l0_3.length l0_3) (hc0_3 : l0_3.length ≤ c0_3) (h : strakeref15_Sector.f a0_0 a0_1 a0_2 l0_3 a0_4 = some r) :
  Calls Try.prog 26 #[.agg #[.int .i64 a0_0,.int .i64 a0_1,.int .i64 a0_2,.slice A0_3 l0_3.length c0_3,.int .i64 a0_4]] w fun e w' => ∃ v0_ : Value,e = .returned (v0_) ∧ Kd.R (Kd.int .u8) 5 w' w.heap.size (fun _ => True) v0_ r ∧ Below w.heap.size w w' := by
 have hu38 := Try.underlying38
 have HR0_3 := Aside0.mk hr0_3
 have HC0_3 := Aside0.mk hc0_3
 clear hr0_3 hc0_3
 have HB := Aside0.mk (Below.refl w.heap.size w)
 have H : (if a0_0 = 2 then (if 16 ≤ 281474976710656 then (some (List.replicate 16 0)) else (none)) else ((some (([] : List Int) : List Int)).bind fun y237 => (if y237.length + l0_3.length < 140737488355328 then (some (y237 ++ l0_3)) else (none)))) = some r := h
 clear h
 by_cases c2 : a0_0 = 2
 ·rw [if_pos c2] at H
  have c2b0 : (a0_0 == 2) = true := beq_iff_eq.mpr c2
  have c2b1 : (a0_0 != 2) = false := bne_eq_false_iff_eq.mpr c2
  clear c2
  by_cases c3 : 16 ≤ 281474976710656
  ·rw [if_pos c3] at H
   have c3b0 := eq_true c3
   have c3b1 : decide (16 ≤ 281474976710656) = true := decide_eq_true c3
   clear c3
   obtain ⟨y234, hy234⟩ : ∃ y_ : List Int, y_ = (List.replicate 16 0) := ⟨_, rfl⟩
   replace H : (some y234) = some r := by first|(rw [hy234];with_reducible exact H)|(have H2_ := (Option.bind_some _ _).symm.trans H;rw [hy234];with_reducible exact H2_)|(have H2_ := (Option.bind_some _ _).symm.trans H;with_reducible exact H2_)|with_reducible exact H|(rw [hy234];exact H)|exact H
   have Ny234 := Aside0.mk hy234
   clear hy234
   obtain rfl := Option.some.inj H
   go_enter Try.func26, Try.ntmps26
   go_wp2_with (first|((with_reducible refine gate_dst (N := 1) rfl ?_);refine box_event ?hg (N := 1) ?hd (cs := #[.int .i64 a0_0,.int .i64 a0_1,.int .i64 a0_2,.slice A0_3 l0_3.length c0_3,.int .i64 a0_4]) (t := 38) ?hr ?_;(case hd => rfl);(case hg => rfl);(case hr => first|(go_simp;done)|(go_simp;rfl));intro gb233 hg w4 hbox hb;have n0_ := Aside0.mk (below_step (by repeat (first|(with_reducible first|exact HB.out|apply below_alloc|apply pw_below_drewN|apply below_drew1)|exact HB.out)) hb);have n1_ := Aside0.mk (hbox);have n2_ := Aside0.mk ((by rw [hg];exact (below_size (by repeat (first|(with_reducible first|exact HB.out|apply below_alloc|apply pw_below_drewN|apply below_drew1)|exact HB.out))) : w.heap.size ≤ gb233));have n3_ := Aside0.mk ((by rw [hg];exact (below_size (by repeat (first|(with_reducible first|exact HB.out|apply below_alloc|apply pw_below_drewN|apply below_drew1)|exact HB.out))) : w.heap.size ≤ gb233));clear HB;have HB := n0_;have BK233 := n1_;have GW233 := n2_;have GE233 := n3_;clear n0_ n1_ n2_ n3_;clear hb hbox hg;have hcz5_0 : w4.cell? ⟨gb233,0,none⟩ = some (.int .i64 a0_0) := (blk_cell BK233.out 0).trans rfl;have hcz5_1 : w4.cell? ⟨gb233,1,none⟩ = some (.int .i64 a0_1) := (blk_cell BK233.out 1).trans rfl;have hcz5_2 : w4.cell? ⟨gb233,2,none⟩ = some (.int .i64 a0_2) := (blk_cell BK233.out 2).trans rfl;have hcz5_3 : w4.cell? ⟨gb233,3,none⟩ = some (.slice A0_3 l0_3.length c0_3) := (blk_cell BK233.out 3).trans rfl;have hcz5_4 : w4.cell? ⟨gb233,4,none⟩ = some (.int .i64 a0_4) := (blk_cell BK233.out 4).trans rfl;have hfz5_0 := blk_frozen BK233.out 0;have hfz5_1 := blk_frozen BK233.out 1;have hfz5_2 := blk_frozen BK233.out 2;have hfz5_3 := blk_frozen BK233.out 3;have hfz5_4 := blk_frozen BK233.out 4)|((with_reducible refine gate_dst (N := 6) rfl ?_);refine Kd.R_make (Kd.int .u8) _ 5 rfl (N := 6) rfl 36 _ _ rfl 16 rfl rfl Try.underlying36 (.int .u8 0) 1 info5 rfl (by decide) (by omega) 0 (ok := fun _ => True) (okp := fun _ => True) rfl (fun _ hk => hk) trivial (by omega) (by omega) (Below.refl _ _) (Nat.le_refl _) ?_;intro v235 w6 ho7 hb hg_ hnew_;clear hg_ hnew_;(first|rw [← Ny234.out] at ho7|(simp only [Int.reduceToNat] at ho7;rw [← Ny234.out] at ho7));have n0_ := Aside0.mk (Kd.R_lower ho7 (below_size (by repeat (first|(with_reducible first|exact HB.out|apply below_alloc|apply pw_below_drewN|apply below_drew1|refine below_set ?_ GE233.out)|exact HB.out))));have n1_ := Aside0.mk (blk_below (g := gb233) (o := .cells #[.int .i64 a0_0,.int .i64 a0_1,.int .i64 a0_2,.slice A0_3 l0_3.length c0_3,.int .i64 a0_4] 38 (0,0)) (by (with_reducible repeat (first|refine blk_drewN ?_ _|refine blk_drew ?_|refine blk_alloc ?_ _));exact BK233.out) hb);have n2_ := Aside0.mk (below_step (by repeat (first|(with_reducible first|exact HB.out|apply below_alloc|apply pw_below_drewN|apply below_drew1|refine below_set ?_ GE233.out)|exact HB.out)) hb);clear BK233;clear HB;have HO236 := n0_;have BK233 := n1_;have HB := n2_;clear n0_ n1_ n2_;clear hb ho7))
   go_ret
   exact ⟨_,by first|rfl|(simp [errW_none,errW_some] <;> rfl)|(simp [*,errW_none,errW_some] <;> rfl),by (with_reducible repeat (first|apply Kd.R_alloc|apply Kd.R_drewN|apply Kd.R_drew));exact HO236.out,by repeat (first|(with_reducible first|exact HB.out|apply below_alloc|apply pw_below_drewN|apply below_drew1|refine below_set ?_ GE233.out)|exact HB.out)⟩
  ·rw [if_neg c3] at H
   exact absurd H (by simp)
 ·rw [if_neg c2] at H
  have c2b0 : (a0_0 == 2) = false := beq_eq_false_iff_ne.mpr c2
  have c2b1 : (a0_0 != 2) = true := bne_iff_ne.mpr c2
  obtain ⟨y237, hy237⟩ : ∃ y_ : List Int, y_ = (([] : List Int)) := ⟨_, rfl⟩
  replace H : (if y237.length + l0_3.length < 140737488355328 then (some (y237 ++ l0_3)) else (none)) = some r := by first|(rw [hy237];with_reducible exact H)|(have H2_ := (Option.bind_some _ _).symm.trans H;rw [hy237];with_reducible exact H2_)|(have H2_ := (Option.bind_some _ _).symm.trans H;with_reducible exact H2_)|with_reducible exact H|(rw [hy237];exact H)|exact H
  have Ny237 := Aside0.mk hy237
  clear hy237
  by_cases c8 : y237.length + l0_3.length < 140737488355328
  ·rw [if_pos c8] at H
   have LMc8 := Aside0.mk c8
   clear c8
   obtain ⟨y240, hy240⟩ : ∃ y_ : List Int, y_ = (y237 ++ l0_3) := ⟨_, rfl⟩
   replace H : (some y240) = some r := by first|(rw [hy240];with_reducible exact H)|(have H2_ := (Option.bind_some _ _).symm.trans H;rw [hy240];with_reducible exact H2_)|(have H2_ := (Option.bind_some _ _).symm.trans H;with_reducible exact H2_)|with_reducible exact H|(rw [hy240];exact H)|exact H
   have Ny240 := Aside0.mk hy240
   clear hy240
   obtain rfl := Option.some.inj H
   go_enter Try.func26, Try.ntmps26
   go_wp2_with (first|((with_reducible refine gate_dst (N := 1) rfl ?_);refine box_event ?hg (N := 1) ?hd (cs := #[.int .i64 a0_0,.int .i64 a0_1,.int .i64 a0_2,.slice A0_3 l0_3.length c0_3,.int .i64 a0_4]) (t := 38) ?hr ?_;(case hd => rfl);(case hg => rfl);(case hr => first|(go_simp;done)|(go_simp;rfl));intro gb233 hg w9 hbox hb;have n0_ := Aside0.mk (below_step (by repeat (first|(with_reducible first|exact HB.out|apply below_alloc|apply pw_below_drewN|apply below_drew1)|exact HB.out)) hb);have n1_ := Aside0.mk (hbox);have n2_ := Aside0.mk ((by rw [hg];exact (below_size (by repeat (first|(with_reducible first|exact HB.out|apply below_alloc|apply pw_below_drewN|apply below_drew1)|exact HB.out))) : w.heap.size ≤ gb233));have n3_ := Aside0.mk ((by rw [hg];exact (below_size (by repeat (first|(with_reducible first|exact HB.out|apply below_alloc|apply pw_below_drewN|apply below_drew1)|exact HB.out))) : w.heap.size ≤ gb233));clear HB;have HB := n0_;have BK233 := n1_;have GW233 := n2_;have GE233 := n3_;clear n0_ n1_ n2_ n3_;clear hb hbox hg;have hcz10_0 : w9.cell? ⟨gb233,0,none⟩ = some (.int .i64 a0_0) := (blk_cell BK233.out 0).trans rfl;have hcz10_1 : w9.cell? ⟨gb233,1,none⟩ = some (.int .i64 a0_1) := (blk_cell BK233.out 1).trans rfl;have hcz10_2 : w9.cell? ⟨gb233,2,none⟩ = some (.int .i64 a0_2) := (blk_cell BK233.out 2).trans rfl;have hcz10_3 : w9.cell? ⟨gb233,3,none⟩ = some (.slice A0_3 l0_3.length c0_3) := (blk_cell BK233.out 3).trans rfl;have hcz10_4 : w9.cell? ⟨gb233,4,none⟩ = some (.int .i64 a0_4) := (blk_cell BK233.out 4).trans rfl;have hfz10_0 := blk_frozen BK233.out 0;have hfz10_1 := blk_frozen BK233.out 1;have hfz10_2 := blk_frozen BK233.out 2;have hfz10_3 := blk_frozen BK233.out 3;have hfz10_4 := blk_frozen BK233.out 4)|((with_reducible refine gate_dst (N := 7) rfl ?_);refine Kd.R_lit (Kd.int .u8) _ 5 ?hg (N := 7) ?hd (xs := ([] : List Int)) (inner := []) (ok := fun _ => True) (okp := fun _ => True) ?hr ?hp (fun _ hk => hk) trivial (Below.refl _ _) (Nat.le_refl _) (by simp) ?_;(case hd => rfl);(case hg => rfl);(case hr => first|(go_simp;done)|(go_simp;rfl));(case hp => exact (Reps.none _ _));intro v238 w11 ho12 hb hg_ hnew_;clear hg_ hnew_;(first|rw [← Ny237.out] at ho12|(simp only [Int.reduceToNat] at ho12;rw [← Ny237.out] at ho12));have n0_ := Aside0.mk (Kd.R_lower ho12 (below_size (by repeat (first|(with_reducible first|exact HB.out|apply below_alloc|apply pw_below_drewN|apply below_drew1|refine below_set ?_ GE233.out)|exact HB.out))));have n1_ := Aside0.mk (blk_below (g := gb233) (o := .cells #[.int .i64 a0_0,.int .i64 a0_1,.int .i64 a0_2,.slice A0_3 l0_3.length c0_3,.int .i64 a0_4] 38 (0,0)) (by (with_reducible repeat (first|refine blk_drewN ?_ _|refine blk_drew ?_|refine blk_alloc ?_ _));exact BK233.out) hb);have n2_ := Aside0.mk (below_step (by repeat (first|(with_reducible first|exact HB.out|apply below_alloc|apply pw_below_drewN|apply below_drew1|refine below_set ?_ GE233.out)|exact HB.out)) hb);clear BK233;clear HB;have HO239 := n0_;have BK233 := n1_;have HB := n2_;clear n0_ n1_ n2_;clear hb ho12;have hcz13_0 : w11.cell? ⟨gb233,0,none⟩ = some (.int .i64 a0_0) := (blk_cell BK233.out 0).trans rfl;have hcz13_1 : w11.cell? ⟨gb233,1,none⟩ = some (.int .i64 a0_1) := (blk_cell BK233.out 1).trans rfl;have hcz13_2 : w11.cell? ⟨gb233,2,none⟩ = some (.int .i64 a0_2) := (blk_cell BK233.out 2).trans rfl;have hcz13_3 : w11.cell? ⟨gb233,3,none⟩ = some (.slice A0_3 l0_3.length c0_3) := (blk_cell BK233.out 3).trans rfl;have hcz13_4 : w11.cell? ⟨gb233,4,none⟩ = some (.int .i64 a0_4) := (blk_cell BK233.out 4).trans rfl;have hfz13_0 := blk_frozen BK233.out 0;have hfz13_1 := blk_frozen BK233.out 1;have hfz13_2 := blk_frozen BK233.out 2;have hfz13_3 := blk_frozen BK233.out 3;have hfz13_4 := blk_frozen BK233.out 4)|((with_reducible refine gate_builtin (b := .append) (xs := #[.tmp 7,.tmp 9]) rfl ?_);at_builtin;refine Kd.R_append_rows (Kd.int .u8) (w0 := w) w.heap.size rfl (.tmp 7) (.tmp 9) 36 5 (.int .u8 0) 1 rfl Try.underlying36 info5 rfl (by decide) (by omega) v238 y237 l0_3 _ _ _ (fun _ => True) (fun _ => False) rfl rfl ?aO ?aR (fun _ _ h => h) (fun _ h => h.elim) ?aF ?aB ?aS ?aL ?_;(case aR => repeat (first|exact (Kd.C_below HR0_3.out HB.out)|(with_reducible refine Kd.C_alloc ?_ _)|(with_reducible refine Kd.C_drewN ?_ _)|(with_reducible refine Kd.C_drew ?_)));(case aB => exact (by repeat (first|(with_reducible first|exact HB.out|apply below_alloc|apply pw_below_drewN|apply below_drew1|refine below_set ?_ GE233.out)|exact HB.out)));(case aF => exact (fun _ _ => trivial));(case aO => exact (by (with_reducible repeat (first|apply Kd.R_alloc|apply Kd.R_drewN|apply Kd.R_drew));exact HO239.out));(case aS => exact (below_size (by repeat (first|(with_reducible first|exact HB.out|apply below_alloc|apply pw_below_drewN|apply below_drew1|refine below_set ?_ GE233.out)|exact HB.out))));(case aL => have := LMc8.out;omega);intro v241 w14 ho hb hg hat;rw [← Ny240.out] at ho;have n0_ := Aside0.mk (blk_grown (g := gb233) (o := .cells #[.int .i64 a0_0,.int .i64 a0_1,.int .i64 a0_2,.slice A0_3 l0_3.length c0_3,.int .i64 a0_4] 38 (0,0)) (by (with_reducible repeat (first|refine blk_drewN ?_ _|refine blk_drew ?_|refine blk_alloc ?_ _));exact BK233.out) hg (Kd.R_ne HO239.out BK233.out (by decide)));have n1_ := Aside0.mk (hb);have n2_ := Aside0.mk (ho);clear BK233;clear HB;clear HO239;have BK233 := n0_;have HB := n1_;have HO242 := n2_;clear n0_ n1_ n2_;clear ho hb hg hat))
   go_ret
   exact ⟨_,by first|rfl|(simp [errW_none,errW_some] <;> rfl)|(simp [*,errW_none,errW_some] <;> rfl),by (with_reducible repeat (first|apply Kd.R_alloc|apply Kd.R_drewN|apply Kd.R_drew));exact HO242.out,by repeat (first|(with_reducible first|exact HB.out|apply below_alloc|apply pw_below_drewN|apply below_drew1|refine below_set ?_ GE233.out)|exact HB.out)⟩
  ·rw [if_neg c8] at H
   exact absurd H (by simp)


/-! ### strakeref15_filled: function 27 -/
def strakeref15_filled.l0 : Nat → Int → List (List Int) → List (List Int) → List Int → Option (List (List Int) × List (List Int))
  | 0, _, _, _, _ => none
  | k + 1, n, x1, x2, p => if (x1.length : Int) < n then (if x1.length < 5864062014805 then (if p.length < 140737488355328 then (if x2.length < 5864062014805 then strakeref15_filled.l0 k n (x1 ++ [List.replicate 16 0]) (x2 ++ [p]) p else none) else none) else none) else some (x1, x2)
def strakeref15_filled.f (k : Nat) (n : Int) (l1 l2 : List (List Int)) : Option (List (List Int) × List (List Int)) := (strakeref05_Pack.f k 3 0 0 (List.replicate 16 0)).bind fun b => strakeref15_filled.l0 k n l1 l2 b.1
theorem strakeref15_filled.mono_l : ∀ k n x1 x2 p, LeO (strakeref15_filled.l0 k n x1 x2 p) (strakeref15_filled.l0 (k + 1) n x1 x2 p) := by
  intro k
  induction k with
  | zero => intro n x1 x2 p r h; simp [strakeref15_filled.l0] at h
  | succ k ih =>
    intro n x1 x2 p r h
    rw [strakeref15_filled.l0] at h ⊢
    by_cases c : (x1.length : Int) < n
    · rw [if_pos c] at h ⊢
      by_cases c2 : x1.length < 5864062014805
      · rw [if_pos c2] at h ⊢
        by_cases c4 : p.length < 140737488355328
        · rw [if_pos c4] at h ⊢
          by_cases c3 : x2.length < 5864062014805
          · rw [if_pos c3] at h ⊢
            exact ih _ _ _ _ _ h
          · rw [if_neg c3] at h
            exact absurd h (by simp)
        · rw [if_neg c4] at h
          exact absurd h (by simp)
      · rw [if_neg c2] at h
        exact absurd h (by simp)
    · rw [if_neg c] at h ⊢
      exact h
theorem strakeref15_filled.mono : ∀ n l1 l2 k, LeO (strakeref15_filled.f k n l1 l2) (strakeref15_filled.f (k + 1) n l1 l2) := by
  intro n l1 l2 k r h
  unfold strakeref15_filled.f at h ⊢
  obtain ⟨t, ht, h⟩ := Option.bind_eq_some_iff.mp h
  rw [strakeref05_Pack.mono _ _ _ _ _ _ ht, Option.bind_some]
  exact strakeref15_filled.mono_l _ _ _ _ _ _ h
set_option maxHeartbeats 2000000 in
set_option maxRecDepth 100000 in
theorem strakeref15_filled.calls (k : Nat) (n : Int) (u1 u2 : Value) (l1 l2 r1 r2 : List (List Int)) (w0 w : World) (hB : Below w0.heap.size w0 w) (ho1 : Kd.S (Kd.slice 5 (Kd.int .u8)) 36 w w0.heap.size (fun k_ => some k_ ≠ (u2 : Value).ownBlock) u1 l1) (ho2 : Kd.S (Kd.slice 5 (Kd.int .u8)) 36 w w0.heap.size (fun k_ => some k_ ≠ (u1 : Value).ownBlock) u2 l2) (h : strakeref15_filled.f k n l1 l2 = some (r1, r2)) :
    Calls Try.prog 27 #[.int .i64 n, u1, u2] w fun e w' => ∃ v0_ v1_ : Value, e = .returned (.tuple #[v0_, v1_]) ∧ Kd.S (Kd.slice 5 (Kd.int .u8)) 36 w' w0.heap.size (fun k_ => some k_ ≠ (v1_ : Value).ownBlock) v0_ r1 ∧ Kd.S (Kd.slice 5 (Kd.int .u8)) 36 w' w0.heap.size (fun k_ => some k_ ≠ (v0_ : Value).ownBlock) v1_ r2 ∧ Below w0.heap.size w0 w' := by
  unfold strakeref15_filled.f at h
  obtain ⟨⟨p, pe⟩, hp, h⟩ := Option.bind_eq_some_iff.mp h
  obtain ⟨Z, hZ⟩ : ∃ L : List Int, L = List.replicate 16 0 := ⟨_, rfl⟩
  rw [← hZ] at hp
  have NZ := Aside0.mk hZ
  have HP := Aside0.mk hp
  have H' := Aside0.mk (show strakeref15_filled.l0 k n l1 l2 p = some (r1, r2) from h)
  have HO1 := Aside0.mk ho1
  have HO2 := Aside0.mk ho2
  have HB := Aside0.mk hB
  clear ho1 ho2 hB h hp hZ
  have hu40 := Try.underlying40
  go_enter Try.func27, Try.ntmps27
  go_wp2_with (first
    | ((with_reducible refine gate_dst (N := 12) rfl ?_); refine Kd.R_make (Kd.int .u8) _ 5 rfl (N := 12) rfl 36 _ _ rfl 16 rfl rfl Try.underlying36 (.int .u8 0) 1 info5 rfl (by decide) (by omega) 0 (ok := fun _ => True) (okp := fun _ => True) rfl (fun _ hk => hk) trivial (by omega) (by omega) (Below.refl _ _) (Nat.le_refl _) ?_; intro v1 w1 ho hb hg_ hnew_; clear hg_ hnew_; (first | rw [← NZ.out] at ho | (simp only [Int.reduceToNat] at ho; rw [← NZ.out] at ho)); have hl_ := Kd.R_base ho; have n1_ : Aside0 (Kd.S (Kd.slice 5 (Kd.int .u8)) 36 w1 w0.heap.size (fun k_ => some k_ ≠ (u2 : Value).ownBlock ∧ some k_ ≠ (v1 : Value).ownBlock) u1 l1) := Aside0.mk (Kd.S_mono (Kd.S_old (by (with_reducible repeat (first | apply Kd.S_alloc | apply Kd.S_drewN | apply Kd.S_drew)); exact HO1.out) hb) (fun k_ hk => ⟨hk.1, fun e_ => (by have := hl_ k_ e_.symm; have := hk.2; omega)⟩)); have n2_ : Aside0 (Kd.S (Kd.slice 5 (Kd.int .u8)) 36 w1 w0.heap.size (fun k_ => some k_ ≠ (u1 : Value).ownBlock ∧ some k_ ≠ (v1 : Value).ownBlock) u2 l2) := Aside0.mk (Kd.S_mono (Kd.S_old (by (with_reducible repeat (first | apply Kd.S_alloc | apply Kd.S_drewN | apply Kd.S_drew)); exact HO2.out) hb) (fun k_ hk => ⟨hk.1, fun e_ => (by have := hl_ k_ e_.symm; have := hk.2; omega)⟩)); have n3_ := Aside0.mk (Kd.R_lower ho (HB.out.size)); have n5_ := Aside0.mk (below_then HB.out HB.out.size hb); clear HO1 HO2 HB hb ho hl_; have HO1 := n1_; have HO2 := n2_; have HZ := n3_; have HB := n5_; clear n1_ n2_ n3_ n5_; obtain ⟨Az, cz, ez⟩ := Kd.R_slice HZ.out; subst ez)
    | ((with_reducible refine gate_dst (N := 13) rfl ?_); refine goesL_ (some 13) rfl rfl Try.func25 (by kernel_rfl) rfl #[.agg #[.int .i64 3, .int .i64 0, .int .i64 0], .slice Az Z.length cz] rfl (by (try simp only [List.map_toArray, List.map_cons, List.map_nil]); first | done | rfl) ?_; (with_reducible refine (strakeref05_Pack.calls k 3 0 0 Az cz Z p pe _ ?side1 ?side2 HP.out).mono ?_); (case side1 => exact (by (with_reducible repeat (first | (refine Kd.C_alloc ?_ _) | (refine Kd.C_drewN ?_ _) | (refine Kd.C_drew ?_))); exact (Kd.R_reads' HZ.out).2.2)); (case side2 => exact (Kd.R_reads' HZ.out).2.1); rintro e w2 ⟨vp, rfl, ho, hb⟩; refine ⟨_, rfl, ?_⟩; have hl_ := Kd.R_base ho; have n1_ : Aside0 (Kd.S (Kd.slice 5 (Kd.int .u8)) 36 w2 w0.heap.size (fun k_ => some k_ ≠ (u2 : Value).ownBlock) u1 l1) := Aside0.mk (Kd.S_mono (Kd.S_old (ok := (fun k_ => some k_ ≠ (u2 : Value).ownBlock ∧ some k_ ≠ ((.slice Az Z.length cz) : Value).ownBlock)) (by (with_reducible repeat (first | apply Kd.S_alloc | apply Kd.S_drewN | apply Kd.S_drew)); exact HO1.out) hb) (fun k_ hk => hk.1.1)); have n2_ : Aside0 (Kd.S (Kd.slice 5 (Kd.int .u8)) 36 w2 w0.heap.size (fun k_ => some k_ ≠ (u1 : Value).ownBlock) u2 l2) := Aside0.mk (Kd.S_mono (Kd.S_old (ok := (fun k_ => some k_ ≠ (u1 : Value).ownBlock ∧ some k_ ≠ ((.slice Az Z.length cz) : Value).ownBlock)) (by (with_reducible repeat (first | apply Kd.S_alloc | apply Kd.S_drewN | apply Kd.S_drew)); exact HO2.out) hb) (fun k_ hk => hk.1.1)); have n3_ := Aside0.mk (Kd.R_lower (Kd.R_new' (Kd.R_new' ho (Kd.S_lt (by (with_reducible repeat (first | apply Kd.S_alloc | apply Kd.S_drewN | apply Kd.S_drew)); exact HO1.out))) (Kd.S_lt (by (with_reducible repeat (first | apply Kd.S_alloc | apply Kd.S_drewN | apply Kd.S_drew)); exact HO2.out))) HB.out.size); have n5_ := Aside0.mk (below_then HB.out HB.out.size hb); clear HO1 HO2 HB HZ hb ho hl_; have HO1 := n1_; have HO2 := n2_; have HV := n3_; have HB := n5_; clear n1_ n2_ n3_ n5_))
  go_loopg [1, 2] k (fun kq v1 v2 w' => ∃ (x1 x2 : List (List Int)), Aside0 (strakeref15_filled.l0 kq n x1 x2 p = some (r1, r2)) ∧ Aside0 (kq ≤ k) ∧ Aside0 (Kd.S (Kd.slice 5 (Kd.int .u8)) 36 w' w0.heap.size (fun k_ => some k_ ≠ (v2 : Value).ownBlock) v1 x1) ∧ Aside0 (Kd.S (Kd.slice 5 (Kd.int .u8)) 36 w' w0.heap.size (fun k_ => some k_ ≠ (v1 : Value).ownBlock) v2 x2) ∧ Aside0 (Kd.R (Kd.int .u8) 5 w' w0.heap.size (fun k_ => some k_ ≠ (v1 : Value).ownBlock ∧ some k_ ≠ (v2 : Value).ownBlock) vp p) ∧ Aside0 (Below w0.heap.size w0 w'))
  case atStart => exact ⟨l1, l2, H', ⟨Nat.le_refl _⟩, ⟨by (with_reducible repeat (first | apply Kd.S_alloc | apply Kd.S_drewN | apply Kd.S_drew)); exact HO1.out⟩, ⟨by (with_reducible repeat (first | apply Kd.S_alloc | apply Kd.S_drewN | apply Kd.S_drew)); exact HO2.out⟩, ⟨by (with_reducible repeat (first | apply Kd.R_alloc | apply Kd.R_drewN | apply Kd.R_drew)); exact Kd.R_mono HV.out (fun _ hk => ⟨hk.1.2, hk.2⟩)⟩, ⟨by repeat (first | (with_reducible first | exact HB.out | apply below_alloc | apply pw_below_drewN | apply below_drew1) | exact HB.out)⟩⟩
  case round =>
    clear H'
    obtain ⟨x1, x2, HA, HK1, HO_1, HO_2, HV, HB⟩ := hrel
    cases gk with
    | zero => exact absurd HA.out (by simp [strakeref15_filled.l0])
    | succ k1 =>
      have H := HA.out
      clear HA
      simp only [strakeref15_filled.l0] at H
      by_cases c1 : (x1.length : Int) < n
      · rw [if_pos c1] at H
        have c1b : decide ((x1.length : Int) < n) = true := decide_eq_true c1
        clear c1
        by_cases c2 : x1.length < 5864062014805
        · rw [if_pos c2] at H
          have L1 := Aside0.mk c2
          clear c2
          by_cases c4 : p.length < 140737488355328
          · rw [if_pos c4] at H
            have L3 := Aside0.mk c4
            clear c4
            by_cases c3 : x2.length < 5864062014805
            · rw [if_pos c3] at H
              have L2 := Aside0.mk c3
              clear c3
              obtain ⟨ya, hya⟩ : ∃ L : List Int, L = List.replicate 16 0 := ⟨_, rfl⟩
              rw [← hya] at H
              have NA := Aside0.mk hya
              have H' := Aside0.mk H
              clear H hya
              obtain ⟨A1, cp1, e1⟩ := Kd.S_slice HO_1.out
              subst e1
              obtain ⟨Ap, cpp, ep⟩ := Kd.R_slice HV.out
              subst ep
              go_wp2_with (first
                | ((with_reducible refine gate_dst (N := 21) rfl ?_); refine Kd.R_make (Kd.int .u8) _ 5 rfl (N := 21) rfl 36 _ _ rfl 16 rfl rfl Try.underlying36 (.int .u8 0) 1 info5 rfl (by decide) (by omega) 0 (ok := fun _ => True) (okp := fun _ => True) rfl (fun _ hk => hk) trivial (by omega) (by omega) (Below.refl _ _) (Nat.le_refl _) ?_; intro va w1 ho hb hg_ hnew_; clear hg_ hnew_; (first | rw [← NA.out] at ho | (simp only [Int.reduceToNat] at ho; rw [← NA.out] at ho)); have hl_ := Kd.R_base ho; have n1_ : Aside0 (Kd.S (Kd.slice 5 (Kd.int .u8)) 36 w1 w0.heap.size (fun k_ => some k_ ≠ (u2 : Value).ownBlock ∧ some k_ ≠ (va : Value).ownBlock) (.slice A1 x1.length cp1) x1) := Aside0.mk (Kd.S_mono (Kd.S_old (ok := (fun k_ => some k_ ≠ (u2 : Value).ownBlock)) (by (with_reducible repeat (first | apply Kd.S_alloc | apply Kd.S_drewN | apply Kd.S_drew)); exact HO_1.out) hb) (fun k_ hk => ⟨hk.1, fun e_ => (by have := hl_ k_ e_.symm; have := hk.2; omega)⟩)); have n2_ : Aside0 (Kd.S (Kd.slice 5 (Kd.int .u8)) 36 w1 w0.heap.size (fun k_ => some k_ ≠ ((.slice A1 x1.length cp1) : Value).ownBlock ∧ some k_ ≠ (va : Value).ownBlock) u2 x2) := Aside0.mk (Kd.S_mono (Kd.S_old (ok := (fun k_ => some k_ ≠ ((.slice A1 x1.length cp1) : Value).ownBlock)) (by (with_reducible repeat (first | apply Kd.S_alloc | apply Kd.S_drewN | apply Kd.S_drew)); exact HO_2.out) hb) (fun k_ hk => ⟨hk.1, fun e_ => (by have := hl_ k_ e_.symm; have := hk.2; omega)⟩)); have n3_ := Aside0.mk (Kd.R_lower (Kd.R_new' (Kd.R_new' ho (Kd.S_lt (by (with_reducible repeat (first | apply Kd.S_alloc | apply Kd.S_drewN | apply Kd.S_drew)); exact HO_1.out))) (Kd.S_lt (by (with_reducible repeat (first | apply Kd.S_alloc | apply Kd.S_drewN | apply Kd.S_drew)); exact HO_2.out))) HB.out.size); have n4_ := Aside0.mk (Kd.R_elder' (by (with_reducible repeat (first | apply Kd.R_alloc | apply Kd.R_drewN | apply Kd.R_drew)); exact HV.out) (Kd.R_base ho) hb); have n5_ := Aside0.mk (below_then HB.out HB.out.size hb); clear HO_1 HO_2 HV HB hb ho hl_; have HO_1 := n1_; have HO_2 := n2_; have HOA := n3_; have HV := n4_; have HB := n5_; clear n1_ n2_ n3_ n4_ n5_; obtain ⟨Aa, ca, ea⟩ := Kd.R_slice HOA.out; subst ea)
                | ((with_reducible refine gate_builtin (b := .append) (xs := #[.tmp 20, .tmp 22]) rfl ?_); at_builtin; refine Kd.S_append (Kd.slice 5 (Kd.int .u8)) (w0 := w0) w0.heap.size rfl (.tmp 20) (.tmp 22) 25 36 (.slice none 0 0) 24 rfl Try.underlying25 info36 rfl (by decide) (by omega) (.slice A1 x1.length cp1) x1 ya [.slice Aa ya.length ca] (fun k_ => some k_ ≠ (u2 : Value).ownBlock) (fun k_ => some k_ = (.slice Aa ya.length ca : Value).ownBlock) rfl rfl ?aP ?aK ?aF ?aO ?aB ?aS ?aL ?_; (case aP => exact Kd.M_row (Kd.R_tight rfl HOA.out)); (case aK => exact fun k_ hk => ⟨(HOA.out.1 k_ hk.symm).2, (HOA.out.1 k_ hk.symm).1.2⟩); (case aF => exact fun k_ hk => Kd.fresh' (Kd.S_lt HO_2.out) k_ hk); (case aO => exact Kd.S_mono HO_1.out (fun _ hk => ⟨hk.1, hk.2⟩)); (case aB => exact HB.out); (case aS => exact HB.out.size); (case aL => have := L1.out; omega); intro v4 w3 ho hb hg hat; have n2_ := Aside0.mk (Kd.S_after (ok := fun _ => True) (Kd.S_mono HO_2.out (fun _ hk => ⟨trivial, hk.1⟩)) hg hat); have n3_ := Aside0.mk (Kd.R_after (ok := (fun k_ => some k_ ≠ (u2 : Value).ownBlock)) (Kd.R_mono HV.out (fun _ hk => ⟨hk.1.2, hk.1.1⟩)) hg hat); clear HO_1 HO_2 HOA HV HB; have HO_1 := Aside0.mk ho; have HO_2 := n2_; have HV := n3_; have HB := Aside0.mk hb; clear n2_ n3_ ho hb hg hat)
                | ((with_reducible refine gate_dst (N := 25) rfl ?_); refine Kd.R_lit (Kd.int .u8) _ 5 ?hg (N := 25) ?hd (xs := ([] : List Int)) (inner := []) (ok := fun _ => True) (okp := fun _ => True) ?hr ?hp (fun _ hk => hk) trivial (Below.refl _ _) (Nat.le_refl _) (by simp) ?_; (case hd => rfl); (case hg => rfl); (case hr => first | (go_simp; done) | (go_simp; rfl)); (case hp => exact (Reps.none _ _)); intro vb w4 ho hb hg_ hnew_; clear hg_ hnew_; have hl_ := Kd.R_base ho; have n1_ : Aside0 (Kd.S (Kd.slice 5 (Kd.int .u8)) 36 w4 w0.heap.size (fun k_ => some k_ ≠ (u2 : Value).ownBlock ∧ some k_ ≠ (vb : Value).ownBlock) v4 (x1 ++ [ya])) := Aside0.mk (Kd.S_mono (Kd.S_old (ok := (fun k_ => some k_ ≠ (u2 : Value).ownBlock)) (by (with_reducible repeat (first | apply Kd.S_alloc | apply Kd.S_drewN | apply Kd.S_drew)); exact HO_1.out) hb) (fun k_ hk => ⟨hk.1, fun e_ => (by have := hl_ k_ e_.symm; have := hk.2; omega)⟩)); have n2_ : Aside0 (Kd.S (Kd.slice 5 (Kd.int .u8)) 36 w4 w0.heap.size (fun k_ => some k_ ≠ (v4 : Value).ownBlock ∧ some k_ ≠ (vb : Value).ownBlock) u2 x2) := Aside0.mk (Kd.S_mono (Kd.S_old (ok := (fun k_ => some k_ ≠ (v4 : Value).ownBlock)) (by (with_reducible repeat (first | apply Kd.S_alloc | apply Kd.S_drewN | apply Kd.S_drew)); exact Kd.S_mono HO_2.out (fun _ hk => hk.2)) hb) (fun k_ hk => ⟨hk.1, fun e_ => (by have := hl_ k_ e_.symm; have := hk.2; omega)⟩)); have n3_ := Aside0.mk (Kd.R_lower (Kd.R_new' (Kd.R_new' (Kd.R_new' ho (Kd.S_lt (by (with_reducible repeat (first | apply Kd.S_alloc | apply Kd.S_drewN | apply Kd.S_drew)); exact HO_1.out))) (Kd.S_lt (by (with_reducible repeat (first | apply Kd.S_alloc | apply Kd.S_drewN | apply Kd.S_drew)); exact HO_2.out))) (Kd.R_lt (by (with_reducible repeat (first | apply Kd.R_alloc | apply Kd.R_drewN | apply Kd.R_drew)); exact HV.out))) HB.out.size); have n4_ := Aside0.mk (Kd.R_elder' (by (with_reducible repeat (first | apply Kd.R_alloc | apply Kd.R_drewN | apply Kd.R_drew)); exact HV.out) (Kd.R_base ho) hb); have n5_ := Aside0.mk (below_then HB.out HB.out.size hb); clear HO_1 HO_2 HV HB hb ho hl_; have HO_1 := n1_; have HO_2 := n2_; have HOB := n3_; have HV := n4_; have HB := n5_; clear n1_ n2_ n3_ n4_ n5_)
                | ((with_reducible refine gate_builtin (b := .append) (xs := #[.tmp 25, .tmp 26]) rfl ?_); at_builtin; refine Kd.R_append_rows (Kd.int .u8) (w0 := w0) w0.heap.size rfl (.tmp 25) (.tmp 26) 36 5 (.int .u8 0) 1 rfl Try.underlying36 info5 rfl (by decide) (by omega) vb [] p _ _ _ (fun k_ => some k_ ≠ (v4 : Value).ownBlock ∧ some k_ ≠ (u2 : Value).ownBlock) (fun _ => False) rfl rfl ?aO ?aR (fun _ _ h => h) (fun _ h => h.elim) ?aF ?aB ?aS ?aL ?_; (case aR => exact (Kd.R_reads' HV.out).2.2); (case aB => exact HB.out); (case aF => exact (fun k_ hk => ⟨Kd.fresh' (Kd.S_lt HO_1.out) k_ hk, Kd.fresh' (Kd.S_lt HO_2.out) k_ hk⟩)); (case aO => exact Kd.R_mono HOB.out (fun _ hk => ⟨hk.1.1.2, hk.1.2⟩)); (case aS => exact HB.out.size); (case aL => have := L3.out; simp; omega); intro vc w5 ho hb hg hat; have n1_ := Aside0.mk (Kd.S_after (ok := (fun k_ => some k_ ≠ (u2 : Value).ownBlock)) HO_1.out hg hat); have n2_ := Aside0.mk (Kd.S_after (ok := (fun k_ => some k_ ≠ (v4 : Value).ownBlock)) HO_2.out hg hat); have n3_ := Aside0.mk (Kd.R_after (ok := (fun k_ => some k_ ≠ (v4 : Value).ownBlock ∧ some k_ ≠ (u2 : Value).ownBlock)) (Kd.R_mono HV.out (fun _ hk => ⟨⟨hk.1.2, hk.1.1⟩, hk.2⟩)) hg hat); clear HO_1 HO_2 HOB HV HB; have HO_1 := n1_; have HO_2 := n2_; have HV := n3_; have HOC := Aside0.mk ho; have HB := Aside0.mk hb; clear n1_ n2_ n3_ ho hb hg hat; obtain ⟨Ac, cc, ec⟩ := Kd.R_slice HOC.out; subst ec)
                | ((with_reducible refine gate_builtin (b := .append) (xs := #[.tmp 24, .tmp 28]) rfl ?_); at_builtin; refine Kd.S_append (Kd.slice 5 (Kd.int .u8)) (w0 := w0) w0.heap.size rfl (.tmp 24) (.tmp 28) 25 36 (.slice none 0 0) 24 rfl Try.underlying25 info36 rfl (by decide) (by omega) u2 x2 p [.slice Ac p.length cc] (fun k_ => some k_ ≠ (v4 : Value).ownBlock) (fun k_ => some k_ = (.slice Ac p.length cc : Value).ownBlock) rfl rfl ?aP ?aK ?aF ?aO ?aB ?aS ?aL ?_; (case aP => exact Kd.M_row (Kd.R_tight rfl HOC.out)); (case aK => exact fun k_ hk => ⟨(HOC.out.1 k_ hk.symm).1, (HOC.out.1 k_ hk.symm).2⟩); (case aF => exact fun k_ hk => Kd.fresh' (Kd.S_lt HO_1.out) k_ hk); (case aO => exact Kd.S_mono HO_2.out (fun _ hk => ⟨hk.1, hk.2⟩)); (case aB => exact HB.out); (case aS => exact HB.out.size); (case aL => have := L2.out; omega); intro v6 w6 ho hb hg hat; have n1_ := Aside0.mk (Kd.S_after (ok := fun _ => True) (Kd.S_mono HO_1.out (fun _ hk => ⟨trivial, hk.1⟩)) hg hat); have n3_ := Aside0.mk (Kd.R_after (ok := (fun k_ => some k_ ≠ (v4 : Value).ownBlock)) (Kd.R_mono HV.out (fun _ hk => ⟨hk.1.1, hk.1.2⟩)) hg hat); clear HO_1 HO_2 HOC HV HB; have HO_1 := n1_; have HO_2 := Aside0.mk ho; have HV := n3_; have HB := Aside0.mk hb; clear n1_ n3_ ho hb hg hat))
              go_roundg k1
              case measure => have := HK1.out; omega
              case rel => exact ⟨_, _, H', ⟨by have := HK1.out; omega⟩, ⟨by (with_reducible repeat (first | apply Kd.S_alloc | apply Kd.S_drewN | apply Kd.S_drew)); exact Kd.S_mono HO_1.out (fun _ hk => hk.2)⟩, ⟨by (with_reducible repeat (first | apply Kd.S_alloc | apply Kd.S_drewN | apply Kd.S_drew)); exact HO_2.out⟩, ⟨by (with_reducible repeat (first | apply Kd.R_alloc | apply Kd.R_drewN | apply Kd.R_drew)); exact HV.out⟩, ⟨by repeat (first | (with_reducible first | exact HB.out | apply below_alloc | apply pw_below_drewN | apply below_drew1) | exact HB.out)⟩⟩
            · rw [if_neg c3] at H
              exact absurd H (by simp)
          · rw [if_neg c4] at H
            exact absurd H (by simp)
        · rw [if_neg c2] at H
          exact absurd H (by simp)
      · rw [if_neg c1] at H
        have c1b : decide ((x1.length : Int) < n) = false := decide_eq_false c1
        clear c1
        simp only [Option.some.injEq, Prod.mk.injEq] at H
        obtain ⟨rfl, rfl⟩ := H
        obtain ⟨A1, cp1, e1⟩ := Kd.S_slice HO_1.out
        subst e1
        go_wp2
        go_ret2
        exact ⟨_, _, rfl, by (with_reducible repeat (first | apply Kd.S_alloc | apply Kd.S_drewN | apply Kd.S_drew)); exact HO_1.out, by (with_reducible repeat (first | apply Kd.S_alloc | apply Kd.S_drewN | apply Kd.S_drew)); exact HO_2.out, by repeat (first | (with_reducible first | exact HB.out | apply below_alloc | apply pw_below_drewN | apply below_drew1) | exact HB.out)⟩


/-! ### strakeref15_Build: function 12 -/
mutual
def strakeref15_Build.j0 : Nat → Int → List (S38) → Bool → Option ((List (List Int)) × (List (List Int)) × Int)
 | 0, _, _, _ => none
 | k + 1,x0,x1,x29 => if x29 = true then (some (([] : List (List Int)),([] : List (List Int)),1)) else (strakeref15_Build.l0 k x0 x1 ([] : List (List Int)) ([] : List (List Int)) 0)
def strakeref15_Build.l0 : Nat → Int → List (S38) → List (List Int) → List (List Int) → Int → Option ((List (List Int)) × (List (List Int)) × Int)
 | 0, _, _, _, _, _ => none
 | k + 1,x0,x1,x7,x8,x9 => if x9 < (x1.length : Int) then (if 0 ≤ x9 then ((strakeref15_Sector.f ((rd_T38 x1 x9).f0) ((rd_T38 x1 x9).f1) ((rd_T38 x1 x9).f2) ((rd_T38 x1 x9).f3) ((rd_T38 x1 x9).f4)).bind fun t251 => ((strakeref05_Pack.f k ((rd_T38 x1 x9).f0) ((rd_T38 x1 x9).f1) ((rd_T38 x1 x9).f2) t251).bind fun bt254 => (if bt254.2 = 0 then (if ((rd_T38 x1 x9).f0) > 2 then (some (([] : List (List Int)),([] : List (List Int)),1)) else ((strakeref15_Sector.f ((rd_T38 x1 x9).f0) ((rd_T38 x1 x9).f1) ((rd_T38 x1 x9).f2) ((rd_T38 x1 x9).f3) ((rd_T38 x1 x9).f4)).bind fun t258 => (if x7.length < 5864062014805 then (if x8.length < 5864062014805 then (strakeref15_Build.l0 k x0 x1 (x7 ++ [t258]) (x8 ++ [bt254.1]) (wrap64 (x9 + 1))) else (none)) else (none)))) else (some (([] : List (List Int)),([] : List (List Int)),1))))) else (none)) else ((strakeref15_filled.f k x0 x7 x8).bind fun bt243 => (some (bt243.1,bt243.2,0)))
end
def strakeref15_Build.f (k : Nat) (a0 : Int) (l1 : List (S38)) : Option ((List (List Int)) × (List (List Int)) × Int) := if a0 < 1 then (strakeref15_Build.j0 k a0 l1 true) else (if a0 > 4 then (strakeref15_Build.j0 k a0 l1 true) else (if (l1.length : Int) = 0 then (strakeref15_Build.j0 k a0 l1 true) else (strakeref15_Build.j0 k a0 l1 (decide ((l1.length : Int) > a0)))))
theorem strakeref15_Build.mono_l : ∀ k,(∀ y0 y1 y2,LeO (strakeref15_Build.j0 k y0 y1 y2) (strakeref15_Build.j0 (k + 1) y0 y1 y2)) ∧ (∀ y0 y1 y2 y3 y4,LeO (strakeref15_Build.l0 k y0 y1 y2 y3 y4) (strakeref15_Build.l0 (k + 1) y0 y1 y2 y3 y4))
 | 0 => ⟨fun _ _ _ r h => by simp [strakeref15_Build.j0] at h, fun _ _ _ _ _ r h => by simp [strakeref15_Build.l0] at h⟩
 | k + 1 => by
  obtain ⟨ih0, ih1⟩ := strakeref15_Build.mono_l k
  refine ⟨?_, ?_⟩
  ·intro y0 y1 y2
   unfold strakeref15_Build.j0
   repeat' first
   | (with_reducible exact ih0 _ _ _)
   | (with_reducible exact ih1 _ _ _ _ _)
   | (with_reducible exact strakeref05_Pack.mono _ _ _ _ _)
   | (with_reducible exact strakeref15_filled.mono _ _ _ _)
   | (with_reducible exact LeO.refl _)
   | (with_reducible exact LeO.none _)
   | (with_reducible refine LeO.ite ?_ ?_)
   | (with_reducible refine LeO.bind ?_ (fun _ => ?_))
   | exact ih0 _ _ _
   | exact ih1 _ _ _ _ _
   | exact strakeref05_Pack.mono _ _ _ _ _
   | exact strakeref15_filled.mono _ _ _ _
   | exact LeO.none _
   | refine LeO.ite ?_ ?_
   | refine LeO.bind ?_ (fun _ => ?_)
  ·intro y0 y1 y2 y3 y4
   unfold strakeref15_Build.l0
   repeat' first
   | (with_reducible exact ih0 _ _ _)
   | (with_reducible exact ih1 _ _ _ _ _)
   | (with_reducible exact strakeref05_Pack.mono _ _ _ _ _)
   | (with_reducible exact strakeref15_filled.mono _ _ _ _)
   | (with_reducible exact LeO.refl _)
   | (with_reducible exact LeO.none _)
   | (with_reducible refine LeO.ite ?_ ?_)
   | (with_reducible refine LeO.bind ?_ (fun _ => ?_))
   | exact ih0 _ _ _
   | exact ih1 _ _ _ _ _
   | exact strakeref05_Pack.mono _ _ _ _ _
   | exact strakeref15_filled.mono _ _ _ _
   | exact LeO.none _
   | refine LeO.ite ?_ ?_
   | refine LeO.bind ?_ (fun _ => ?_)
theorem strakeref15_Build.mono : ∀ a0 a1 k, LeO (strakeref15_Build.f k a0 a1) (strakeref15_Build.f (k + 1) a0 a1) := by
 intro a0 a1 k
 obtain ⟨ih0, ih1⟩ := strakeref15_Build.mono_l k
 unfold strakeref15_Build.f
 repeat' first
   | (with_reducible exact ih0 _ _ _)
   | (with_reducible exact ih1 _ _ _ _ _)
   | (with_reducible exact strakeref05_Pack.mono _ _ _ _ _)
   | (with_reducible exact strakeref15_filled.mono _ _ _ _)
   | (with_reducible exact LeO.refl _)
   | (with_reducible exact LeO.none _)
   | (with_reducible refine LeO.ite ?_ ?_)
   | (with_reducible refine LeO.bind ?_ (fun _ => ?_))
   | exact ih0 _ _ _
   | exact ih1 _ _ _ _ _
   | exact strakeref05_Pack.mono _ _ _ _ _
   | exact strakeref15_filled.mono _ _ _ _
   | exact LeO.none _
   | refine LeO.ite ?_ ?_
   | refine LeO.bind ?_ (fun _ => ?_)
def strakeref15_Build.T8 : Bool × List (List Nat × List Nat) := (true,[([],[]),([0],[0]),([],[]),([2],[2]),([],[]),([4],[4]),([1,3,5],[1,3,5]),([],[]),([7],[7]),([6,8,8],[6,8]),([9],[9]),([10],[10]),([10],[10]),([11,9,0,1,2,3,4,5,6,7,8,9,10,11],[11]),([12,13,0,1,2,3,4,5,6,7,8,9,10,11,12,13],[12])])
def strakeref15_Build.B8 : List Nat := [0, 1, 0, 4, 0, 16, 63, 0, 128, 511, 1023, 2047, 2047, 4095, 16383]
theorem strakeref15_Build.tab8 : rtab .any (opsOf Try.f12 8) = strakeref15_Build.T8 := by kernel_rfl
theorem strakeref15_Build.bits8 : waitsOk strakeref15_Build.T8.2 strakeref15_Build.B8 = true := by kernel_rfl
set_option maxHeartbeats 8000000 in
set_option maxRecDepth 100000 in
theorem strakeref15_Build.calls (k : Nat) (a0 : Int) (A1 : Option Addr) (c1 : Nat) (l1 : List (S38)) (r1 : List (List Int)) (r2 : List (List Int)) (r3 : Int) (w : World) (hr1 : Kd.C k38 w A1 l1.length l1) (hc1 : l1.length ≤ c1) (h : strakeref15_Build.f k a0 l1 = some (r1,r2,r3)) :
  Calls Try.prog 12 #[.int .i64 a0,.slice A1 l1.length c1] w fun e w' => ∃ v0_ v1_ : Value,e = .returned (.tuple #[v0_,v1_,.int .i64 r3]) ∧ Kd.S (Kd.slice 5 (Kd.int .u8)) 36 w' w.heap.size (fun k_ => some k_ ≠ (v1_ : Value).ownBlock) v0_ r1 ∧ Kd.S (Kd.slice 5 (Kd.int .u8)) 36 w' w.heap.size (fun k_ => some k_ ≠ (v0_ : Value).ownBlock) v1_ r2 ∧ Below w.heap.size w w' := by
 have hu38 := Try.underlying38
 have hu40 := Try.underlying40
 have HR1 := Aside0.mk hr1
 have HC1 := Aside0.mk hc1
 clear hr1 hc1
 have HB := Aside0.mk (Below.refl w.heap.size w)
 have H : (if a0 < 1 then (strakeref15_Build.j0 k a0 l1 true) else (if a0 > 4 then (strakeref15_Build.j0 k a0 l1 true) else (if (l1.length : Int) = 0 then (strakeref15_Build.j0 k a0 l1 true) else (strakeref15_Build.j0 k a0 l1 (decide ((l1.length : Int) > a0)))))) = some (r1,r2,r3) := h
 clear h
 have HC3 := Aside0.mk H
 clear H
 go_enter Try.func12, Try.ntmps12
 go_upto_region 1 with (fail)
 go_cut [29] (fun v29 wc => ∃ (kq : Nat) (x29_2 : Bool),v29 = .bool x29_2 ∧ Aside0 (strakeref15_Build.j0 kq a0 l1 x29_2 = some (r1,r2,r3)) ∧ Aside0 (kq ≤ k) ∧ Aside0 (Below w.heap.size w wc))
 case first =>
  have H := HC3.out
  clear HC3
  by_cases c4 : a0 < 1
  ·rw [if_pos c4] at H
   have c4b0 : decide (a0 < 1) = true := decide_eq_true c4
   clear c4
   (first | rw [c4b0] | (simp only [i64_w, i32_w]; rw [c4b0]) | skip)
   have H' := Aside0.mk H
   clear H
   go_wp2
   go_meet
   case rel => exact ⟨_,(true),(by first|rfl|(simp;done)|(simp [*];done)),H',⟨by first|omega|exact Nat.le_refl _⟩,⟨by repeat (first|(with_reducible first|exact HB.out|apply below_alloc|apply pw_below_drewN|apply below_drew1)|exact HB.out)⟩⟩
  ·rw [if_neg c4] at H
   have c4b0 : decide (a0 < 1) = false := decide_eq_false c4
   clear c4
   (first | rw [c4b0] | (simp only [i64_w, i32_w]; rw [c4b0]) | skip)
   by_cases c5 : a0 > 4
   ·rw [if_pos c5] at H
    have c5b0 : decide (4 < a0) = true := decide_eq_true c5
    clear c5
    have H' := Aside0.mk H
    clear H
    go_wp2
    go_meet
    case rel => exact ⟨_,(true),(by first|rfl|(simp;done)|(simp [*];done)),H',⟨by first|omega|exact Nat.le_refl _⟩,⟨by repeat (first|(with_reducible first|exact HB.out|apply below_alloc|apply pw_below_drewN|apply below_drew1)|exact HB.out)⟩⟩
   ·rw [if_neg c5] at H
    have c5b0 : decide (4 < a0) = false := decide_eq_false c5
    clear c5
    by_cases c6 : (l1.length : Int) = 0
    ·rw [if_pos c6] at H
     have c6b0 : ((l1.length : Int) == 0) = true := beq_iff_eq.mpr c6
     have c6b1 : ((l1.length : Int) != 0) = false := bne_eq_false_iff_eq.mpr c6
     clear c6
     have H' := Aside0.mk H
     clear H
     go_wp2
     go_meet
     case rel => exact ⟨_,(true),(by first|rfl|(simp;done)|(simp [*];done)),H',⟨by first|omega|exact Nat.le_refl _⟩,⟨by repeat (first|(with_reducible first|exact HB.out|apply below_alloc|apply pw_below_drewN|apply below_drew1)|exact HB.out)⟩⟩
    ·rw [if_neg c6] at H
     have c6b0 : ((l1.length : Int) == 0) = false := beq_eq_false_iff_ne.mpr c6
     have c6b1 : ((l1.length : Int) != 0) = true := bne_iff_ne.mpr c6
     have c6b2 : ¬ (l1 = []) := fun h_ => c6 (by rw [h_]; rfl)
     have H' := Aside0.mk H
     clear H
     go_wp2
     go_meet
     case rel => exact ⟨_,(decide ((l1.length : Int) > a0)),(by first|rfl|(simp;done)|(simp [*];done)),H',⟨by first|omega|exact Nat.le_refl _⟩,⟨by repeat (first|(with_reducible first|exact HB.out|apply below_alloc|apply pw_below_drewN|apply below_drew1)|exact HB.out)⟩⟩
 case rest =>
  clear HC3
  try clear c1
  try clear p2
  try clear c4
  try clear c4b0
  try clear c5
  try clear c5b0
  try clear c6
  try clear c6b0
  try clear c6b1
  try clear c6b2
  obtain ⟨kq, x29_2, rfl, HA, HJ2, HB⟩ := hcut
  cases kq with
  | zero => exact absurd HA.out (by simp [strakeref15_Build.j0])
  | succ kj2 =>
   have H := HA.out
   clear HA
   simp only [strakeref15_Build.j0] at H
   by_cases c7 : x29_2 = true
   ·subst c7
    have H1 : (some (([] : List (List Int)),([] : List (List Int)),1)) = some (r1,r2,r3) := by rw [if_pos rfl] at H;exact H
    clear H
    have H := H1
    clear H1
    simp only [Option.some.injEq, Prod.mk.injEq] at H
    obtain ⟨rfl, rfl, rfl⟩ := H
    go_wp2
    go_ret3
    exact ⟨_,_,by first|rfl|(simp [errW_none,errW_some] <;> rfl)|(simp [*,errW_none,errW_some] <;> rfl),by first|exact Kd.S_nil _ _ _ _ _|exact Kd.N_nil _ _ _ _ _|exact Kd.V_nil _ _ _ _ _|exact Kd.Q_nil _ _ _ _ _|exact Kd.R_nil _ _ _ _ _,by first|exact Kd.S_nil _ _ _ _ _|exact Kd.N_nil _ _ _ _ _|exact Kd.V_nil _ _ _ _ _|exact Kd.Q_nil _ _ _ _ _|exact Kd.R_nil _ _ _ _ _,by repeat (first|(with_reducible first|exact HB.out|apply below_alloc|apply pw_below_drewN|apply below_drew1)|exact HB.out)⟩
   ·replace c7 := Bool.eq_false_iff.mpr c7
    subst c7
    have H1 : (strakeref15_Build.l0 kj2 a0 l1 ([] : List (List Int)) ([] : List (List Int)) 0) = some (r1,r2,r3) := by rw [if_neg (show ¬ (false = true) by decide)] at H;exact H
    clear H
    have H := H1
    clear H1
    have H' := Aside0.mk H
    clear H
    go_wp2
    go_loopg [7,8,9] kj2 (fun kq v7 v8 v9 w' => ∃ (x7_2 : List (List Int)) (x8_2 : List (List Int)) (x9_2 : Int),v9 = .int .i64 x9_2 ∧ Aside0 (strakeref15_Build.l0 kq a0 l1 x7_2 x8_2 x9_2 = some (r1,r2,r3)) ∧ Aside0 (kq ≤ kj2) ∧ Aside0 (Kd.S (Kd.slice 5 (Kd.int .u8)) 36 w' w.heap.size (fun k_ => some k_ ≠ (v8 : Value).ownBlock) v7 x7_2) ∧ Aside0 (Kd.S (Kd.slice 5 (Kd.int .u8)) 36 w' w.heap.size (fun k_ => some k_ ≠ (v7 : Value).ownBlock) v8 x8_2) ∧ Aside0 (Below w.heap.size w w'))
    case atStart => exact ⟨(([] : List (List Int))),(([] : List (List Int))),(0),(by first|rfl|(simp;done)|(simp [*];done)),H',⟨Nat.le_refl _⟩,⟨by first|exact Kd.S_nil _ _ _ _ _|exact Kd.N_nil _ _ _ _ _|exact Kd.V_nil _ _ _ _ _|exact Kd.Q_nil _ _ _ _ _|exact Kd.R_nil _ _ _ _ _⟩,⟨by first|exact Kd.S_nil _ _ _ _ _|exact Kd.N_nil _ _ _ _ _|exact Kd.V_nil _ _ _ _ _|exact Kd.Q_nil _ _ _ _ _|exact Kd.R_nil _ _ _ _ _⟩,⟨by repeat (first|(with_reducible first|exact HB.out|apply below_alloc|apply pw_below_drewN|apply below_drew1)|exact HB.out)⟩⟩
    case round =>
     clear H'
     try clear c1
     try clear p2
     try clear c4
     try clear c4b0
     try clear c5
     try clear c5b0
     try clear c6
     try clear c6b0
     try clear c6b1
     try clear c6b2
     try clear c7
     try clear p2
     obtain ⟨x7_2, x8_2, x9_2, rfl, HA, HK2, HO_7, HO_8, HB⟩ := hrel
     cases gk with
     | zero => exact absurd HA.out (by simp [strakeref15_Build.l0])
     | succ k2 =>
      have H := HA.out
      clear HA
      simp only [strakeref15_Build.l0] at H
      by_cases c8 : x9_2 < (l1.length : Int)
      ·rw [if_pos c8] at H
       have c8b0 : decide (x9_2 < (l1.length : Int)) = true := decide_eq_true c8
       clear c8
       by_cases c9 : 0 ≤ x9_2
       ·rw [if_pos c9] at H
        have c9b0 : decide (0 ≤ x9_2) = true := decide_eq_true c9
        clear c9
        replace H := Option.bind_eq_some_iff.mp H
        obtain ⟨t251, A100, H⟩ := H
        replace H : ((strakeref05_Pack.f k2 ((rd_T38 l1 x9_2).f0) ((rd_T38 l1 x9_2).f1) ((rd_T38 l1 x9_2).f2) t251).bind fun bt254 => (if bt254.2 = 0 then (if ((rd_T38 l1 x9_2).f0) > 2 then (some (([] : List (List Int)),([] : List (List Int)),1)) else ((strakeref15_Sector.f ((rd_T38 l1 x9_2).f0) ((rd_T38 l1 x9_2).f1) ((rd_T38 l1 x9_2).f2) ((rd_T38 l1 x9_2).f3) ((rd_T38 l1 x9_2).f4)).bind fun t258 => (if x7_2.length < 5864062014805 then (if x8_2.length < 5864062014805 then (strakeref15_Build.l0 k2 a0 l1 (x7_2 ++ [t258]) (x8_2 ++ [bt254.1]) (wrap64 (x9_2 + 1))) else (none)) else (none)))) else (some (([] : List (List Int)),([] : List (List Int)),1)))) = some (r1,r2,r3) := H
        have A10 := Aside0.mk A100
        clear A100
        replace H := Option.bind_eq_some_iff.mp H
        obtain ⟨⟨t254, t257⟩, A110, H⟩ := H
        replace H : (if t257 = 0 then (if ((rd_T38 l1 x9_2).f0) > 2 then (some (([] : List (List Int)),([] : List (List Int)),1)) else ((strakeref15_Sector.f ((rd_T38 l1 x9_2).f0) ((rd_T38 l1 x9_2).f1) ((rd_T38 l1 x9_2).f2) ((rd_T38 l1 x9_2).f3) ((rd_T38 l1 x9_2).f4)).bind fun t258 => (if x7_2.length < 5864062014805 then (if x8_2.length < 5864062014805 then (strakeref15_Build.l0 k2 a0 l1 (x7_2 ++ [t258]) (x8_2 ++ [t254]) (wrap64 (x9_2 + 1))) else (none)) else (none)))) else (some (([] : List (List Int)),([] : List (List Int)),1))) = some (r1,r2,r3) := H
        have A11 := Aside0.mk A110
        clear A110
        by_cases c12 : t257 = 0
        ·rw [if_pos c12] at H
         have c12b0 : (t257 == 0) = true := beq_iff_eq.mpr c12
         have c12b1 : (t257 != 0) = false := bne_eq_false_iff_eq.mpr c12
         clear c12
         by_cases c13 : ((rd_T38 l1 x9_2).f0) > 2
         ·rw [if_pos c13] at H
          have c13b0 : decide (2 < ((rd_T38 l1 x9_2).f0)) = true := decide_eq_true c13
          clear c13
          simp only [Option.some.injEq, Prod.mk.injEq] at H
          obtain ⟨rfl, rfl, rfl⟩ := H
          have p249 : 0 ≤ (x9_2 : Int) := of_decide_eq_true (by first | (with_reducible assumption) | assumption)
          have q249 : x9_2 < (l1.length : Int) := of_decide_eq_true (by first|(with_reducible assumption)|assumption)
          obtain ⟨ad249,A249_3,c249_3,e249,hx249_0,hx249_1,hx249_2,hx249_3,hx249_4,hl249_3,hi249_3⟩ := at_T38 HR1.out x9_2 p249 q249
          cases e249
          replace hx249_0 := (HB.out.cell (World.block_lt_of_cell? w _ hx249_0)).trans hx249_0
          replace hx249_1 := (HB.out.cell (World.block_lt_of_cell? w _ hx249_1)).trans hx249_1
          replace hx249_2 := (HB.out.cell (World.block_lt_of_cell? w _ hx249_2)).trans hx249_2
          replace hx249_3 := (HB.out.cell (World.block_lt_of_cell? w _ hx249_3)).trans hx249_3
          replace hx249_4 := (HB.out.cell (World.block_lt_of_cell? w _ hx249_4)).trans hx249_4
          have HR249_3 := Aside0.mk hi249_3
          have HC249_3 := Aside0.mk hl249_3
          clear hi249_3 hl249_3
          replace p249 := eq_true p249
          replace q249 := eq_true q249
          try go_wp2_with (first|((with_reducible refine gate_dst (N := 10) rfl ?_);(try (refine gate_guard (by rfl) ?_;dsimp only));refine box_event ?hg (N := 10) ?hd (cs := #[.int .i64 0,.int .i64 0,.int .i64 0,.slice none 0 0,.int .i64 0]) (t := 38) ?hr ?_;(case hd => rfl);(case hg => rfl);(case hr => first|(go_simp;done)|(go_simp;rfl));intro gb250 hg w14 hbox hb;have n0_ := Aside0.mk (Kd.S_below (by (with_reducible repeat (first|apply Kd.S_alloc|apply Kd.S_drewN|apply Kd.S_drew));exact HO_7.out) hb);have n1_ := Aside0.mk (Kd.S_below (by (with_reducible repeat (first|apply Kd.S_alloc|apply Kd.S_drewN|apply Kd.S_drew));exact HO_8.out) hb);have n2_ := Aside0.mk (below_step (by repeat (first|(with_reducible first|exact HB.out|apply below_alloc|apply pw_below_drewN|apply below_drew1)|exact HB.out)) hb);have n3_ := Aside0.mk (hbox);have n4_ := Aside0.mk ((by rw [hg];exact (below_size (by repeat (first|(with_reducible first|exact HB.out|apply below_alloc|apply pw_below_drewN|apply below_drew1)|exact HB.out))) : w.heap.size ≤ gb250));have n5_ := Aside0.mk ((by rw [hg];exact (below_size (by repeat (first|(with_reducible first|exact HB.out|apply below_alloc|apply pw_below_drewN|apply below_drew1)|exact HB.out))) : w.heap.size ≤ gb250));clear HO_7;clear HO_8;clear HB;have HO_7 := n0_;have HO_8 := n1_;have HB := n2_;have BK250 := n3_;have GW250 := n4_;have GE250 := n5_;clear n0_ n1_ n2_ n3_ n4_ n5_;clear hb hbox hg;have hcz15_0 : w14.cell? ⟨gb250,0,none⟩ = some (.int .i64 0) := (blk_cell BK250.out 0).trans rfl;have hcz15_1 : w14.cell? ⟨gb250,1,none⟩ = some (.int .i64 0) := (blk_cell BK250.out 1).trans rfl;have hcz15_2 : w14.cell? ⟨gb250,2,none⟩ = some (.int .i64 0) := (blk_cell BK250.out 2).trans rfl;have hcz15_3 : w14.cell? ⟨gb250,3,none⟩ = some (.slice none 0 0) := (blk_cell BK250.out 3).trans rfl;have hcz15_4 : w14.cell? ⟨gb250,4,none⟩ = some (.int .i64 0) := (blk_cell BK250.out 4).trans rfl;have hfz15_0 := blk_frozen BK250.out 0;have hfz15_1 := blk_frozen BK250.out 1;have hfz15_2 := blk_frozen BK250.out 2;have hfz15_3 := blk_frozen BK250.out 3;have hfz15_4 := blk_frozen BK250.out 4))
          have n0_ : Aside0 (Kd.S (Kd.slice 5 (Kd.int .u8)) 36 (((((w14.setCell ⟨gb250,0,none⟩ (.int .i64 ((rd_T38 l1 x9_2).f0))).setCell ⟨gb250,1,none⟩ (.int .i64 ((rd_T38 l1 x9_2).f1))).setCell ⟨gb250,2,none⟩ (.int .i64 ((rd_T38 l1 x9_2).f2))).setCell ⟨gb250,3,none⟩ (.slice A249_3 ((rd_T38 l1 x9_2).f3).length c249_3)).setCell ⟨gb250,4,none⟩ (.int .i64 ((rd_T38 l1 x9_2).f4))) w.heap.size (fun k_ => some k_ ≠ (u8 : Value).ownBlock) u7 x7_2) := ⟨by (with_reducible repeat (first|apply Kd.S_alloc|apply Kd.S_drewN|apply Kd.S_drew));exact Kd.S_mono (Kd.S_far (p := ⟨gb250,4,none⟩) (Kd.S_far (p := ⟨gb250,3,none⟩) (Kd.S_far (p := ⟨gb250,2,none⟩) (Kd.S_far (p := ⟨gb250,1,none⟩) (Kd.S_far (p := ⟨gb250,0,none⟩) (Kd.S_types HO_7.out BK250.out (by decide)) (fun _ hk => hk.2) (.int .i64 ((rd_T38 l1 x9_2).f0))) (fun _ hk => hk.2) (.int .i64 ((rd_T38 l1 x9_2).f1))) (fun _ hk => hk.2) (.int .i64 ((rd_T38 l1 x9_2).f2))) (fun _ hk => hk.2) (.slice A249_3 ((rd_T38 l1 x9_2).f3).length c249_3)) (fun _ hk => hk.2) (.int .i64 ((rd_T38 l1 x9_2).f4))) (fun _ hk => hk.1)⟩
          have n1_ : Aside0 (Kd.S (Kd.slice 5 (Kd.int .u8)) 36 (((((w14.setCell ⟨gb250,0,none⟩ (.int .i64 ((rd_T38 l1 x9_2).f0))).setCell ⟨gb250,1,none⟩ (.int .i64 ((rd_T38 l1 x9_2).f1))).setCell ⟨gb250,2,none⟩ (.int .i64 ((rd_T38 l1 x9_2).f2))).setCell ⟨gb250,3,none⟩ (.slice A249_3 ((rd_T38 l1 x9_2).f3).length c249_3)).setCell ⟨gb250,4,none⟩ (.int .i64 ((rd_T38 l1 x9_2).f4))) w.heap.size (fun k_ => some k_ ≠ (u7 : Value).ownBlock) u8 x8_2) := ⟨by (with_reducible repeat (first|apply Kd.S_alloc|apply Kd.S_drewN|apply Kd.S_drew));exact Kd.S_mono (Kd.S_far (p := ⟨gb250,4,none⟩) (Kd.S_far (p := ⟨gb250,3,none⟩) (Kd.S_far (p := ⟨gb250,2,none⟩) (Kd.S_far (p := ⟨gb250,1,none⟩) (Kd.S_far (p := ⟨gb250,0,none⟩) (Kd.S_types HO_8.out BK250.out (by decide)) (fun _ hk => hk.2) (.int .i64 ((rd_T38 l1 x9_2).f0))) (fun _ hk => hk.2) (.int .i64 ((rd_T38 l1 x9_2).f1))) (fun _ hk => hk.2) (.int .i64 ((rd_T38 l1 x9_2).f2))) (fun _ hk => hk.2) (.slice A249_3 ((rd_T38 l1 x9_2).f3).length c249_3)) (fun _ hk => hk.2) (.int .i64 ((rd_T38 l1 x9_2).f4))) (fun _ hk => hk.1)⟩
          have n2_ : Aside0 ((((((w14.setCell ⟨gb250,0,none⟩ (.int .i64 ((rd_T38 l1 x9_2).f0))).setCell ⟨gb250,1,none⟩ (.int .i64 ((rd_T38 l1 x9_2).f1))).setCell ⟨gb250,2,none⟩ (.int .i64 ((rd_T38 l1 x9_2).f2))).setCell ⟨gb250,3,none⟩ (.slice A249_3 ((rd_T38 l1 x9_2).f3).length c249_3)).setCell ⟨gb250,4,none⟩ (.int .i64 ((rd_T38 l1 x9_2).f4))).heap[gb250]? = some (.cells #[.int .i64 ((rd_T38 l1 x9_2).f0),.int .i64 ((rd_T38 l1 x9_2).f1),.int .i64 ((rd_T38 l1 x9_2).f2),.slice A249_3 ((rd_T38 l1 x9_2).f3).length c249_3,.int .i64 ((rd_T38 l1 x9_2).f4)] 38 (0,0))) := ⟨by (with_reducible repeat (first|refine blk_drewN ?_ _|refine blk_drew ?_|refine blk_alloc ?_ _));refine blk_put (cs := #[.int .i64 ((rd_T38 l1 x9_2).f0),.int .i64 ((rd_T38 l1 x9_2).f1),.int .i64 ((rd_T38 l1 x9_2).f2),.slice A249_3 ((rd_T38 l1 x9_2).f3).length c249_3,.int .i64 0]) ?_ 4 _ rfl;(with_reducible repeat (first|refine blk_drewN ?_ _|refine blk_drew ?_|refine blk_alloc ?_ _));refine blk_put (cs := #[.int .i64 ((rd_T38 l1 x9_2).f0),.int .i64 ((rd_T38 l1 x9_2).f1),.int .i64 ((rd_T38 l1 x9_2).f2),.slice none 0 0,.int .i64 0]) ?_ 3 _ rfl;(with_reducible repeat (first|refine blk_drewN ?_ _|refine blk_drew ?_|refine blk_alloc ?_ _));refine blk_put (cs := #[.int .i64 ((rd_T38 l1 x9_2).f0),.int .i64 ((rd_T38 l1 x9_2).f1),.int .i64 0,.slice none 0 0,.int .i64 0]) ?_ 2 _ rfl;(with_reducible repeat (first|refine blk_drewN ?_ _|refine blk_drew ?_|refine blk_alloc ?_ _));refine blk_put (cs := #[.int .i64 ((rd_T38 l1 x9_2).f0),.int .i64 0,.int .i64 0,.slice none 0 0,.int .i64 0]) ?_ 1 _ rfl;(with_reducible repeat (first|refine blk_drewN ?_ _|refine blk_drew ?_|refine blk_alloc ?_ _));refine blk_put (cs := #[.int .i64 0,.int .i64 0,.int .i64 0,.slice none 0 0,.int .i64 0]) ?_ 0 _ rfl;(with_reducible repeat (first|refine blk_drewN ?_ _|refine blk_drew ?_|refine blk_alloc ?_ _));exact BK250.out⟩
          have n3_ : Aside0 (Below w.heap.size w (((((w14.setCell ⟨gb250,0,none⟩ (.int .i64 ((rd_T38 l1 x9_2).f0))).setCell ⟨gb250,1,none⟩ (.int .i64 ((rd_T38 l1 x9_2).f1))).setCell ⟨gb250,2,none⟩ (.int .i64 ((rd_T38 l1 x9_2).f2))).setCell ⟨gb250,3,none⟩ (.slice A249_3 ((rd_T38 l1 x9_2).f3).length c249_3)).setCell ⟨gb250,4,none⟩ (.int .i64 ((rd_T38 l1 x9_2).f4)))) := ⟨by repeat (first|(with_reducible first|exact HB.out|apply below_alloc|apply pw_below_drewN|apply below_drew1|refine below_set ?_ GE250.out)|exact HB.out)⟩
          (try clear HO_7)
          (try clear HO_8)
          (try clear BK250)
          (try clear HB)
          (try simp only [IntKind.wrap_u8, IntKind.wrap_u32])
          generalize (((((w14.setCell ⟨gb250,0,none⟩ (.int .i64 ((rd_T38 l1 x9_2).f0))).setCell ⟨gb250,1,none⟩ (.int .i64 ((rd_T38 l1 x9_2).f1))).setCell ⟨gb250,2,none⟩ (.int .i64 ((rd_T38 l1 x9_2).f2))).setCell ⟨gb250,3,none⟩ (.slice A249_3 ((rd_T38 l1 x9_2).f3).length c249_3)).setCell ⟨gb250,4,none⟩ (.int .i64 ((rd_T38 l1 x9_2).f4))) = w16 at n0_ n1_ n2_ n3_ ⊢
          have HO_7 := n0_
          have HO_8 := n1_
          have BK250 := n2_
          have HB := n3_
          clear n0_ n1_ n2_ n3_
          (try (rw [drewN_self w16];generalize hq_ : World.drewN w16 _ = w16;have n0_ : Aside0 (Kd.S (Kd.slice 5 (Kd.int .u8)) 36 w16 w.heap.size (fun k_ => some k_ ≠ (u8 : Value).ownBlock) u7 x7_2) := ⟨by rw [← hq_];exact (by (with_reducible repeat (first|apply Kd.S_alloc|apply Kd.S_drewN|apply Kd.S_drew));exact HO_7.out)⟩;have n1_ : Aside0 (Kd.S (Kd.slice 5 (Kd.int .u8)) 36 w16 w.heap.size (fun k_ => some k_ ≠ (u7 : Value).ownBlock) u8 x8_2) := ⟨by rw [← hq_];exact (by (with_reducible repeat (first|apply Kd.S_alloc|apply Kd.S_drewN|apply Kd.S_drew));exact HO_8.out)⟩;have n2_ : Aside0 (w16.heap[gb250]? = some (.cells #[.int .i64 ((rd_T38 l1 x9_2).f0),.int .i64 ((rd_T38 l1 x9_2).f1),.int .i64 ((rd_T38 l1 x9_2).f2),.slice A249_3 ((rd_T38 l1 x9_2).f3).length c249_3,.int .i64 ((rd_T38 l1 x9_2).f4)] 38 (0,0))) := ⟨by rw [← hq_];exact (by (with_reducible repeat (first|refine blk_drewN ?_ _|refine blk_drew ?_|refine blk_alloc ?_ _));exact BK250.out)⟩;have n3_ : Aside0 (Below w.heap.size w w16) := ⟨by rw [← hq_];exact (by repeat (first|(with_reducible first|exact HB.out|apply below_alloc|apply pw_below_drewN|apply below_drew1|refine below_set ?_ GE250.out)|exact HB.out))⟩;clear HO_7 HO_8 BK250 HB hq_;have HO_7 := n0_;have HO_8 := n1_;have BK250 := n2_;have HB := n3_;clear n0_ n1_ n2_ n3_))
          have n0_ := Aside0.mk (Kd.S_drew HO_7.out)
          have n1_ := Aside0.mk (Kd.S_drew HO_8.out)
          have n2_ := Aside0.mk (blk_drew BK250.out)
          have n3_ := Aside0.mk (below_drew1 HB.out)
          clear HO_7
          clear HO_8
          clear BK250
          clear HB
          have HO_7 := n0_
          have HO_8 := n1_
          have BK250 := n2_
          have HB := n3_
          clear n0_ n1_ n2_ n3_
          refine start_ (n := 15) (S := fun w' => w'.cell? ⟨gb250,0,none⟩ = some (.int .i64 ((rd_T38 l1 x9_2).f0)) ∧ w'.cell? ⟨gb250,1,none⟩ = some (.int .i64 ((rd_T38 l1 x9_2).f1)) ∧ w'.cell? ⟨gb250,2,none⟩ = some (.int .i64 ((rd_T38 l1 x9_2).f2)) ∧ w'.cell? ⟨gb250,3,none⟩ = some (.slice A249_3 ((rd_T38 l1 x9_2).f3).length c249_3) ∧ w'.cell? ⟨gb250,4,none⟩ = some (.int .i64 ((rd_T38 l1 x9_2).f4))) (ds := []) #[false,false,false,false,false,false,false,false,false,false,false,false,false,false,false] (by kernel_rfl) rfl rfl ⟨(blk_cell BK250.out 0).trans rfl,(blk_cell BK250.out 1).trans rfl,(blk_cell BK250.out 2).trans rfl,(blk_cell BK250.out 3).trans rfl,(blk_cell BK250.out 4).trans rfl⟩ (fun hHeld => ?_);refine with_tabW strakeref15_Build.tab8 strakeref15_Build.bits8 (fun HT_ HW_ => ?_)
          generalize w16.drew = w17 at HO_7 HO_8 BK250 HB hHeld ⊢
          refine pure_ (i := 0) (N := some 41) (v := ?_) (a' := ?_) #[true,false,false,false,false,false,false,false,false,false,false,false,false,false,false] rfl rfl (any_of HT_.out (by kernel_rfl)) (fun _ _ _ h => h) (Or.inl ⟨by rfl,?_⟩) ?_ ?_
          rotate_left
          ·intro w'
           go_simp
           with_reducible rfl
          rotate_left
          ·simp only [Act.put, List.setIfInBounds_toArray, List.set_cons_zero, List.set_cons_succ, i64_w, i32_w]
           rfl
          refine pure_ (i := 2) (N := some 43) (v := ?_) (a' := ?_) #[true,false,true,false,false,false,false,false,false,false,false,false,false,false,false] rfl rfl (any_of HT_.out (by kernel_rfl)) (fun _ _ _ h => h) (Or.inl ⟨by rfl,?_⟩) ?_ ?_
          rotate_left
          ·intro w'
           go_simp
           with_reducible rfl
          rotate_left
          ·simp only [Act.put, List.setIfInBounds_toArray, List.set_cons_zero, List.set_cons_succ, i64_w, i32_w]
           rfl
          refine pure_ (i := 4) (N := some 45) (v := ?_) (a' := ?_) #[true,false,true,false,true,false,false,false,false,false,false,false,false,false,false] rfl rfl (any_of HT_.out (by kernel_rfl)) (fun _ _ _ h => h) (Or.inl ⟨by rfl,?_⟩) ?_ ?_
          rotate_left
          ·intro w'
           go_simp
           with_reducible rfl
          rotate_left
          ·simp only [Act.put, List.setIfInBounds_toArray, List.set_cons_zero, List.set_cons_succ, i64_w, i32_w]
           rfl
          refine take_ (i := 1) (N := some 42) (v := ?_) (a' := ?_) #[true,true,true,false,true,false,false,false,false,false,false,false,false,false,false] rfl rfl (take_ofW HT_.out HW_.out (by kernel_rfl)) (fun _ _ _ h => h) (Or.inl ⟨by rfl,?_⟩) hHeld ?_ ?_
          rotate_left
          ·rintro w' ⟨s0, s1, s2, s3, s4⟩
           go_simp
           with_reducible rfl
          rotate_left
          ·simp only [Act.put, List.setIfInBounds_toArray, List.set_cons_zero, List.set_cons_succ, i64_w, i32_w]
           rfl
          refine take_ (i := 3) (N := some 44) (v := ?_) (a' := ?_) #[true,true,true,true,true,false,false,false,false,false,false,false,false,false,false] rfl rfl (take_ofW HT_.out HW_.out (by kernel_rfl)) (fun _ _ _ h => h) (Or.inl ⟨by rfl,?_⟩) hHeld ?_ ?_
          rotate_left
          ·rintro w' ⟨s0, s1, s2, s3, s4⟩
           go_simp
           with_reducible rfl
          rotate_left
          ·simp only [Act.put, List.setIfInBounds_toArray, List.set_cons_zero, List.set_cons_succ, i64_w, i32_w]
           rfl
          refine take_ (i := 5) (N := some 46) (v := ?_) (a' := ?_) #[true,true,true,true,true,true,false,false,false,false,false,false,false,false,false] rfl rfl (take_ofW HT_.out HW_.out (by kernel_rfl)) (fun _ _ _ h => h) (Or.inl ⟨by rfl,?_⟩) hHeld ?_ ?_
          rotate_left
          ·rintro w' ⟨s0, s1, s2, s3, s4⟩
           go_simp
           with_reducible rfl
          rotate_left
          ·simp only [Act.put, List.setIfInBounds_toArray, List.set_cons_zero, List.set_cons_succ, i64_w, i32_w]
           rfl
          refine pure_ (i := 6) (N := some 47) (v := ?_) (a' := ?_) #[true,true,true,true,true,true,true,false,false,false,false,false,false,false,false] rfl rfl (any_of HT_.out (by kernel_rfl)) (fun _ _ _ h => h) (Or.inl ⟨by rfl,?_⟩) ?_ ?_
          rotate_left
          ·intro w'
           go_simp
           with_reducible rfl
          rotate_left
          ·simp only [Act.put, List.setIfInBounds_toArray, List.set_cons_zero, List.set_cons_succ, i64_w, i32_w]
           rfl
          refine take_ (i := 7) (N := some 48) (v := ?_) (a' := ?_) #[true,true,true,true,true,true,true,true,false,false,false,false,false,false,false] rfl rfl (take_ofW HT_.out HW_.out (by kernel_rfl)) (fun _ _ _ h => h) (Or.inl ⟨by rfl,?_⟩) hHeld ?_ ?_
          rotate_left
          ·rintro w' ⟨s0, s1, s2, s3, s4⟩
           go_simp
           with_reducible rfl
          rotate_left
          ·simp only [Act.put, List.setIfInBounds_toArray, List.set_cons_zero, List.set_cons_succ, i64_w, i32_w]
           rfl
          refine one_ (i := 8) (N := some 49) #[true,true,true,true,true,true,true,true,true,false,false,false,false,false,false] rfl rfl (one_of HT_.out (by kernel_rfl)) (by decide) (fun K hK => ?_)
          refine goes_ Try.func26 (by kernel_rfl) rfl #[.agg #[.int .i64 ((rd_T38 l1 x9_2).f0),.int .i64 ((rd_T38 l1 x9_2).f1),.int .i64 ((rd_T38 l1 x9_2).f2),.slice A249_3 ((rd_T38 l1 x9_2).f3).length c249_3,.int .i64 ((rd_T38 l1 x9_2).f4)]] (by rfl) rfl rfl (by (try simp only [List.map_toArray,List.map_cons,List.map_nil]);first|done|rfl|(simp only [List.length_drop,List.length_take];rfl)) ?_
          with_reducible refine (strakeref15_Sector.calls ((rd_T38 l1 x9_2).f0) ((rd_T38 l1 x9_2).f1) ((rd_T38 l1 x9_2).f2) _ _ ((rd_T38 l1 x9_2).f3) ((rd_T38 l1 x9_2).f4) t251 _ ?side1 ?side2 A10.out).mono ?_
          (case side1 => repeat (first|exact (Kd.C_below HR249_3.out HB.out)|(with_reducible refine Kd.C_alloc ?_ _)|(with_reducible refine Kd.C_drewN ?_ _)|(with_reducible refine Kd.C_drew ?_)))
          (case side2 => exact HC249_3.out)
          rintro e w18 ⟨v252, rfl, ho0, hb⟩
          refine ⟨_, rfl, ?_⟩
          have n0_ := Aside0.mk (Kd.S_elder' (by (with_reducible repeat (first|apply Kd.S_alloc|apply Kd.S_drewN|apply Kd.S_drew));exact HO_7.out) (Kd.R_base ho0) hb)
          have n1_ := Aside0.mk (Kd.S_elder' (by (with_reducible repeat (first|apply Kd.S_alloc|apply Kd.S_drewN|apply Kd.S_drew));exact HO_8.out) (Kd.R_base ho0) hb)
          have n2_ := Aside0.mk (Kd.R_lower ho0 (below_size (by repeat (first|(with_reducible first|exact HB.out|apply below_alloc|apply pw_below_drewN|apply below_drew1|refine below_set ?_ GE250.out)|exact HB.out))))
          have n3_ := Aside0.mk (blk_below (g := gb250) (o := .cells #[.int .i64 ((rd_T38 l1 x9_2).f0),.int .i64 ((rd_T38 l1 x9_2).f1),.int .i64 ((rd_T38 l1 x9_2).f2),.slice A249_3 ((rd_T38 l1 x9_2).f3).length c249_3,.int .i64 ((rd_T38 l1 x9_2).f4)] 38 (0,0)) (by (with_reducible repeat (first|refine blk_drewN ?_ _|refine blk_drew ?_|refine blk_alloc ?_ _));exact BK250.out) hb)
          have n4_ := Aside0.mk (below_step (by repeat (first|(with_reducible first|exact HB.out|apply below_alloc|apply pw_below_drewN|apply below_drew1|refine below_set ?_ GE250.out)|exact HB.out)) hb)
          clear HO_7
          clear HO_8
          clear BK250
          clear HB
          have HO_7 := n0_
          have HO_8 := n1_
          have HO253 := n2_
          have BK250 := n3_
          have HB := n4_
          clear n0_ n1_ n2_ n3_ n4_
          (try clear hb)
          (try clear hb2)
          (try clear hk)
          (try clear hi)
          (try clear ho0)
          obtain ⟨Ao19, co19, eo19⟩ := Kd.R_slice HO253.out
          (first|subst eo19|(injection eo19 with f1_ f2_ f3_;have f4_ := f1_.symm;have f5_ := f3_.symm;clear f1_ f2_ f3_;subst f4_;subst f5_))
          refine hK.out _ _ ⟨(blk_cell BK250.out 0).trans rfl,(blk_cell BK250.out 1).trans rfl,(blk_cell BK250.out 2).trans rfl,(blk_cell BK250.out 3).trans rfl,(blk_cell BK250.out 4).trans rfl⟩ (fun hHeld => ?_)
          clear hK K
          refine norm_ (a' := ?_) ?_ ?_
          rotate_left
          ·show Act.put _ (some 49) _ = _
           simp only [Act.put, List.setIfInBounds_toArray, List.set_cons_zero, List.set_cons_succ, i64_w, i32_w]
           rfl
          refine one_ (i := 9) (N := some 50) #[true,true,true,true,true,true,true,true,true,true,false,false,false,false,false] rfl rfl (one_of HT_.out (by kernel_rfl)) (by decide) (fun K hK => ?_)
          refine goes_ Try.func25 (by kernel_rfl) rfl #[.agg #[.int .i64 ((rd_T38 l1 x9_2).f0),.int .i64 ((rd_T38 l1 x9_2).f1),.int .i64 ((rd_T38 l1 x9_2).f2)],.slice Ao19 t251.length co19] (by rfl) rfl rfl (by (try simp only [List.map_toArray,List.map_cons,List.map_nil]);first|done|rfl|(simp only [List.length_drop,List.length_take];rfl)) ?_
          with_reducible refine (strakeref05_Pack.calls k2 ((rd_T38 l1 x9_2).f0) ((rd_T38 l1 x9_2).f1) ((rd_T38 l1 x9_2).f2) _ _ t251 t254 t257 _ ?side1 ?side2 A11.out).mono ?_
          (case side1 => repeat (first|exact (Kd.R_reads' HO253.out).2.2|(with_reducible refine Kd.C_alloc ?_ _)|(with_reducible refine Kd.C_drewN ?_ _)|(with_reducible refine Kd.C_drew ?_)))
          (case side2 => exact (Kd.R_reads' HO253.out).2.1)
          rintro e w20 ⟨v255, rfl, ho0, hb⟩
          refine ⟨_, rfl, ?_⟩
          have n0_ := Aside0.mk (Kd.S_elder' (by (with_reducible repeat (first|apply Kd.S_alloc|apply Kd.S_drewN|apply Kd.S_drew));exact HO_7.out) (Kd.R_base ho0) hb)
          have n1_ := Aside0.mk (Kd.S_elder' (by (with_reducible repeat (first|apply Kd.S_alloc|apply Kd.S_drewN|apply Kd.S_drew));exact HO_8.out) (Kd.R_base ho0) hb)
          have n2_ := Aside0.mk (Kd.R_elder' (by (with_reducible repeat (first|apply Kd.R_alloc|apply Kd.R_drewN|apply Kd.R_drew));exact HO253.out) (Kd.R_base ho0) hb)
          have n3_ := Aside0.mk (Kd.R_lower (Kd.R_new' ho0 (Kd.R_lt (by (with_reducible repeat (first|apply Kd.R_alloc|apply Kd.R_drewN|apply Kd.R_drew));exact HO253.out))) (below_size (by repeat (first|(with_reducible first|exact HB.out|apply below_alloc|apply pw_below_drewN|apply below_drew1|refine below_set ?_ GE250.out)|exact HB.out))))
          have n4_ := Aside0.mk (blk_below (g := gb250) (o := .cells #[.int .i64 ((rd_T38 l1 x9_2).f0),.int .i64 ((rd_T38 l1 x9_2).f1),.int .i64 ((rd_T38 l1 x9_2).f2),.slice A249_3 ((rd_T38 l1 x9_2).f3).length c249_3,.int .i64 ((rd_T38 l1 x9_2).f4)] 38 (0,0)) (by (with_reducible repeat (first|refine blk_drewN ?_ _|refine blk_drew ?_|refine blk_alloc ?_ _));exact BK250.out) hb)
          have n5_ := Aside0.mk (below_step (by repeat (first|(with_reducible first|exact HB.out|apply below_alloc|apply pw_below_drewN|apply below_drew1|refine below_set ?_ GE250.out)|exact HB.out)) hb)
          clear HO_7
          clear HO_8
          clear HO253
          clear BK250
          clear HB
          have HO_7 := n0_
          have HO_8 := n1_
          have HO253 := n2_
          have HO256 := n3_
          have BK250 := n4_
          have HB := n5_
          clear n0_ n1_ n2_ n3_ n4_ n5_
          (try clear hb)
          (try clear hb2)
          (try clear hk)
          (try clear hi)
          (try clear ho0)
          refine hK.out _ _ ⟨(blk_cell BK250.out 0).trans rfl,(blk_cell BK250.out 1).trans rfl,(blk_cell BK250.out 2).trans rfl,(blk_cell BK250.out 3).trans rfl,(blk_cell BK250.out 4).trans rfl⟩ (fun hHeld => ?_)
          clear hK K
          refine norm_ (a' := ?_) ?_ ?_
          rotate_left
          ·show Act.put _ (some 50) _ = _
           simp only [Act.put, List.setIfInBounds_toArray, List.set_cons_zero, List.set_cons_succ, i64_w, i32_w]
           rfl
          refine pure_ (i := 10) (N := some 40) (v := ?_) (a' := ?_) #[true,true,true,true,true,true,true,true,true,true,true,false,false,false,false] rfl rfl (any_of HT_.out (by kernel_rfl)) (fun _ _ _ h => h) (Or.inl ⟨by rfl,?_⟩) ?_ ?_
          rotate_left
          ·intro w'
           go_simp
           with_reducible rfl
          rotate_left
          ·simp only [Act.put, List.setIfInBounds_toArray, List.set_cons_zero, List.set_cons_succ, i64_w, i32_w]
           rfl
          refine pure_ (i := 11) (N := some 51) (v := ?_) (a' := ?_) #[true,true,true,true,true,true,true,true,true,true,true,true,false,false,false] rfl rfl (any_of HT_.out (by kernel_rfl)) (fun _ _ _ h => h) (Or.inl ⟨by rfl,?_⟩) ?_ ?_
          rotate_left
          ·intro w'
           go_simp
           with_reducible rfl
          rotate_left
          ·simp only [Act.put, List.setIfInBounds_toArray, List.set_cons_zero, List.set_cons_succ, i64_w, i32_w]
           rfl
          refine pure_ (i := 12) (N := some 52) (v := ?_) (a' := ?_) #[true,true,true,true,true,true,true,true,true,true,true,true,true,false,false] rfl rfl (any_of HT_.out (by kernel_rfl)) (fun _ _ _ h => h) (Or.inl ⟨by rfl,?_⟩) ?_ ?_
          rotate_left
          ·intro w'
           go_simp
           with_reducible rfl
          rotate_left
          ·simp only [Act.put, List.setIfInBounds_toArray, List.set_cons_zero, List.set_cons_succ, i64_w, i32_w]
           rfl
          refine pure_ (i := 13) (N := some 11) (v := ?_) (a' := ?_) #[true,true,true,true,true,true,true,true,true,true,true,true,true,true,false] rfl rfl (any_of HT_.out (by kernel_rfl)) (fun _ _ _ h => h) (Or.inl ⟨by rfl,?_⟩) ?_ ?_
          rotate_left
          ·intro w'
           go_simp
           with_reducible rfl
          rotate_left
          ·simp only [Act.put, List.setIfInBounds_toArray, List.set_cons_zero, List.set_cons_succ, i64_w, i32_w]
           rfl
          refine pure_ (i := 14) (N := some 12) (v := ?_) (a' := ?_) #[true,true,true,true,true,true,true,true,true,true,true,true,true,true,true] rfl rfl (any_of HT_.out (by kernel_rfl)) (fun _ _ _ h => h) (Or.inl ⟨by rfl,?_⟩) ?_ ?_
          rotate_left
          ·intro w'
           go_simp
           with_reducible rfl
          rotate_left
          ·simp only [Act.put, List.setIfInBounds_toArray, List.set_cons_zero, List.set_cons_succ, i64_w, i32_w]
           rfl
          refine done_ (done_of HT_.out (by kernel_rfl)) ?_
          have hcz21_0 : w20.cell? ⟨gb250,0,none⟩ = some (.int .i64 ((rd_T38 l1 x9_2).f0)) := (blk_cell BK250.out 0).trans rfl
          have hcz21_1 : w20.cell? ⟨gb250,1,none⟩ = some (.int .i64 ((rd_T38 l1 x9_2).f1)) := (blk_cell BK250.out 1).trans rfl
          have hcz21_2 : w20.cell? ⟨gb250,2,none⟩ = some (.int .i64 ((rd_T38 l1 x9_2).f2)) := (blk_cell BK250.out 2).trans rfl
          have hcz21_3 : w20.cell? ⟨gb250,3,none⟩ = some (.slice A249_3 ((rd_T38 l1 x9_2).f3).length c249_3) := (blk_cell BK250.out 3).trans rfl
          have hcz21_4 : w20.cell? ⟨gb250,4,none⟩ = some (.int .i64 ((rd_T38 l1 x9_2).f4)) := (blk_cell BK250.out 4).trans rfl
          have hfz21_0 := blk_frozen BK250.out 0
          have hfz21_1 := blk_frozen BK250.out 1
          have hfz21_2 := blk_frozen BK250.out 2
          have hfz21_3 := blk_frozen BK250.out 3
          have hfz21_4 := blk_frozen BK250.out 4
          try go_wp2
          go_ret3
          exact ⟨_,_,by first|rfl|(simp [errW_none,errW_some] <;> rfl)|(simp [*,errW_none,errW_some] <;> rfl),by first|exact Kd.S_nil _ _ _ _ _|exact Kd.N_nil _ _ _ _ _|exact Kd.V_nil _ _ _ _ _|exact Kd.Q_nil _ _ _ _ _|exact Kd.R_nil _ _ _ _ _,by first|exact Kd.S_nil _ _ _ _ _|exact Kd.N_nil _ _ _ _ _|exact Kd.V_nil _ _ _ _ _|exact Kd.Q_nil _ _ _ _ _|exact Kd.R_nil _ _ _ _ _,by repeat (first|(with_reducible first|exact HB.out|apply below_alloc|apply pw_below_drewN|apply below_drew1|refine below_set ?_ GE250.out)|exact HB.out)⟩
         ·rw [if_neg c13] at H
          have c13b0 : decide (2 < ((rd_T38 l1 x9_2).f0)) = false := decide_eq_false c13
          clear c13
          replace H := Option.bind_eq_some_iff.mp H
          obtain ⟨t258, A220, H⟩ := H
          replace H : (if x7_2.length < 5864062014805 then (if x8_2.length < 5864062014805 then (strakeref15_Build.l0 k2 a0 l1 (x7_2 ++ [t258]) (x8_2 ++ [t254]) (wrap64 (x9_2 + 1))) else (none)) else (none)) = some (r1,r2,r3) := H
          have A22 := Aside0.mk A220
          clear A220
          by_cases c23 : x7_2.length < 5864062014805
          ·rw [if_pos c23] at H
           have LMc23 := Aside0.mk c23
           clear c23
           obtain ⟨y261, hy261⟩ : ∃ y_ : List (List Int), y_ = (x7_2 ++ [t258]) := ⟨_, rfl⟩
           replace H : (if x8_2.length < 5864062014805 then (strakeref15_Build.l0 k2 a0 l1 y261 (x8_2 ++ [t254]) (wrap64 (x9_2 + 1))) else (none)) = some (r1,r2,r3) := by first|(rw [hy261];with_reducible exact H)|(have H2_ := (Option.bind_some _ _).symm.trans H;rw [hy261];with_reducible exact H2_)|(have H2_ := (Option.bind_some _ _).symm.trans H;with_reducible exact H2_)|with_reducible exact H|(rw [hy261];exact H)|exact H
           have Ny261 := Aside0.mk hy261
           clear hy261
           by_cases c24 : x8_2.length < 5864062014805
           ·rw [if_pos c24] at H
            have LMc24 := Aside0.mk c24
            clear c24
            obtain ⟨y264, hy264⟩ : ∃ y_ : List (List Int), y_ = (x8_2 ++ [t254]) := ⟨_, rfl⟩
            replace H : (strakeref15_Build.l0 k2 a0 l1 y261 y264 (wrap64 (x9_2 + 1))) = some (r1,r2,r3) := by first|(rw [hy264];with_reducible exact H)|(have H2_ := (Option.bind_some _ _).symm.trans H;rw [hy264];with_reducible exact H2_)|(have H2_ := (Option.bind_some _ _).symm.trans H;with_reducible exact H2_)|with_reducible exact H|(rw [hy264];exact H)|exact H
            have Ny264 := Aside0.mk hy264
            clear hy264
            have H' := Aside0.mk H
            clear H
            have p249 : 0 ≤ (x9_2 : Int) := of_decide_eq_true (by first | (with_reducible assumption) | assumption)
            have q249 : x9_2 < (l1.length : Int) := of_decide_eq_true (by first|(with_reducible assumption)|assumption)
            obtain ⟨ad249,A249_3,c249_3,e249,hx249_0,hx249_1,hx249_2,hx249_3,hx249_4,hl249_3,hi249_3⟩ := at_T38 HR1.out x9_2 p249 q249
            cases e249
            replace hx249_0 := (HB.out.cell (World.block_lt_of_cell? w _ hx249_0)).trans hx249_0
            replace hx249_1 := (HB.out.cell (World.block_lt_of_cell? w _ hx249_1)).trans hx249_1
            replace hx249_2 := (HB.out.cell (World.block_lt_of_cell? w _ hx249_2)).trans hx249_2
            replace hx249_3 := (HB.out.cell (World.block_lt_of_cell? w _ hx249_3)).trans hx249_3
            replace hx249_4 := (HB.out.cell (World.block_lt_of_cell? w _ hx249_4)).trans hx249_4
            have HR249_3 := Aside0.mk hi249_3
            have HC249_3 := Aside0.mk hl249_3
            clear hi249_3 hl249_3
            replace p249 := eq_true p249
            replace q249 := eq_true q249
            try go_wp2_with (first|((with_reducible refine gate_dst (N := 10) rfl ?_);(try (refine gate_guard (by rfl) ?_;dsimp only));refine box_event ?hg (N := 10) ?hd (cs := #[.int .i64 0,.int .i64 0,.int .i64 0,.slice none 0 0,.int .i64 0]) (t := 38) ?hr ?_;(case hd => rfl);(case hg => rfl);(case hr => first|(go_simp;done)|(go_simp;rfl));intro gb250 hg w25 hbox hb;have n0_ := Aside0.mk (Kd.S_below (by (with_reducible repeat (first|apply Kd.S_alloc|apply Kd.S_drewN|apply Kd.S_drew));exact HO_7.out) hb);have n1_ := Aside0.mk (Kd.S_below (by (with_reducible repeat (first|apply Kd.S_alloc|apply Kd.S_drewN|apply Kd.S_drew));exact HO_8.out) hb);have n2_ := Aside0.mk (below_step (by repeat (first|(with_reducible first|exact HB.out|apply below_alloc|apply pw_below_drewN|apply below_drew1)|exact HB.out)) hb);have n3_ := Aside0.mk (hbox);have n4_ := Aside0.mk ((by rw [hg];exact (below_size (by repeat (first|(with_reducible first|exact HB.out|apply below_alloc|apply pw_below_drewN|apply below_drew1)|exact HB.out))) : w.heap.size ≤ gb250));have n5_ := Aside0.mk ((by rw [hg];exact (below_size (by repeat (first|(with_reducible first|exact HB.out|apply below_alloc|apply pw_below_drewN|apply below_drew1)|exact HB.out))) : w.heap.size ≤ gb250));clear HO_7;clear HO_8;clear HB;have HO_7 := n0_;have HO_8 := n1_;have HB := n2_;have BK250 := n3_;have GW250 := n4_;have GE250 := n5_;clear n0_ n1_ n2_ n3_ n4_ n5_;clear hb hbox hg;have hcz26_0 : w25.cell? ⟨gb250,0,none⟩ = some (.int .i64 0) := (blk_cell BK250.out 0).trans rfl;have hcz26_1 : w25.cell? ⟨gb250,1,none⟩ = some (.int .i64 0) := (blk_cell BK250.out 1).trans rfl;have hcz26_2 : w25.cell? ⟨gb250,2,none⟩ = some (.int .i64 0) := (blk_cell BK250.out 2).trans rfl;have hcz26_3 : w25.cell? ⟨gb250,3,none⟩ = some (.slice none 0 0) := (blk_cell BK250.out 3).trans rfl;have hcz26_4 : w25.cell? ⟨gb250,4,none⟩ = some (.int .i64 0) := (blk_cell BK250.out 4).trans rfl;have hfz26_0 := blk_frozen BK250.out 0;have hfz26_1 := blk_frozen BK250.out 1;have hfz26_2 := blk_frozen BK250.out 2;have hfz26_3 := blk_frozen BK250.out 3;have hfz26_4 := blk_frozen BK250.out 4))
            have n0_ : Aside0 (Kd.S (Kd.slice 5 (Kd.int .u8)) 36 (((((w25.setCell ⟨gb250,0,none⟩ (.int .i64 ((rd_T38 l1 x9_2).f0))).setCell ⟨gb250,1,none⟩ (.int .i64 ((rd_T38 l1 x9_2).f1))).setCell ⟨gb250,2,none⟩ (.int .i64 ((rd_T38 l1 x9_2).f2))).setCell ⟨gb250,3,none⟩ (.slice A249_3 ((rd_T38 l1 x9_2).f3).length c249_3)).setCell ⟨gb250,4,none⟩ (.int .i64 ((rd_T38 l1 x9_2).f4))) w.heap.size (fun k_ => some k_ ≠ (u8 : Value).ownBlock) u7 x7_2) := ⟨by (with_reducible repeat (first|apply Kd.S_alloc|apply Kd.S_drewN|apply Kd.S_drew));exact Kd.S_mono (Kd.S_far (p := ⟨gb250,4,none⟩) (Kd.S_far (p := ⟨gb250,3,none⟩) (Kd.S_far (p := ⟨gb250,2,none⟩) (Kd.S_far (p := ⟨gb250,1,none⟩) (Kd.S_far (p := ⟨gb250,0,none⟩) (Kd.S_types HO_7.out BK250.out (by decide)) (fun _ hk => hk.2) (.int .i64 ((rd_T38 l1 x9_2).f0))) (fun _ hk => hk.2) (.int .i64 ((rd_T38 l1 x9_2).f1))) (fun _ hk => hk.2) (.int .i64 ((rd_T38 l1 x9_2).f2))) (fun _ hk => hk.2) (.slice A249_3 ((rd_T38 l1 x9_2).f3).length c249_3)) (fun _ hk => hk.2) (.int .i64 ((rd_T38 l1 x9_2).f4))) (fun _ hk => hk.1)⟩
            have n1_ : Aside0 (Kd.S (Kd.slice 5 (Kd.int .u8)) 36 (((((w25.setCell ⟨gb250,0,none⟩ (.int .i64 ((rd_T38 l1 x9_2).f0))).setCell ⟨gb250,1,none⟩ (.int .i64 ((rd_T38 l1 x9_2).f1))).setCell ⟨gb250,2,none⟩ (.int .i64 ((rd_T38 l1 x9_2).f2))).setCell ⟨gb250,3,none⟩ (.slice A249_3 ((rd_T38 l1 x9_2).f3).length c249_3)).setCell ⟨gb250,4,none⟩ (.int .i64 ((rd_T38 l1 x9_2).f4))) w.heap.size (fun k_ => some k_ ≠ (u7 : Value).ownBlock) u8 x8_2) := ⟨by (with_reducible repeat (first|apply Kd.S_alloc|apply Kd.S_drewN|apply Kd.S_drew));exact Kd.S_mono (Kd.S_far (p := ⟨gb250,4,none⟩) (Kd.S_far (p := ⟨gb250,3,none⟩) (Kd.S_far (p := ⟨gb250,2,none⟩) (Kd.S_far (p := ⟨gb250,1,none⟩) (Kd.S_far (p := ⟨gb250,0,none⟩) (Kd.S_types HO_8.out BK250.out (by decide)) (fun _ hk => hk.2) (.int .i64 ((rd_T38 l1 x9_2).f0))) (fun _ hk => hk.2) (.int .i64 ((rd_T38 l1 x9_2).f1))) (fun _ hk => hk.2) (.int .i64 ((rd_T38 l1 x9_2).f2))) (fun _ hk => hk.2) (.slice A249_3 ((rd_T38 l1 x9_2).f3).length c249_3)) (fun _ hk => hk.2) (.int .i64 ((rd_T38 l1 x9_2).f4))) (fun _ hk => hk.1)⟩
            have n2_ : Aside0 ((((((w25.setCell ⟨gb250,0,none⟩ (.int .i64 ((rd_T38 l1 x9_2).f0))).setCell ⟨gb250,1,none⟩ (.int .i64 ((rd_T38 l1 x9_2).f1))).setCell ⟨gb250,2,none⟩ (.int .i64 ((rd_T38 l1 x9_2).f2))).setCell ⟨gb250,3,none⟩ (.slice A249_3 ((rd_T38 l1 x9_2).f3).length c249_3)).setCell ⟨gb250,4,none⟩ (.int .i64 ((rd_T38 l1 x9_2).f4))).heap[gb250]? = some (.cells #[.int .i64 ((rd_T38 l1 x9_2).f0),.int .i64 ((rd_T38 l1 x9_2).f1),.int .i64 ((rd_T38 l1 x9_2).f2),.slice A249_3 ((rd_T38 l1 x9_2).f3).length c249_3,.int .i64 ((rd_T38 l1 x9_2).f4)] 38 (0,0))) := ⟨by (with_reducible repeat (first|refine blk_drewN ?_ _|refine blk_drew ?_|refine blk_alloc ?_ _));refine blk_put (cs := #[.int .i64 ((rd_T38 l1 x9_2).f0),.int .i64 ((rd_T38 l1 x9_2).f1),.int .i64 ((rd_T38 l1 x9_2).f2),.slice A249_3 ((rd_T38 l1 x9_2).f3).length c249_3,.int .i64 0]) ?_ 4 _ rfl;(with_reducible repeat (first|refine blk_drewN ?_ _|refine blk_drew ?_|refine blk_alloc ?_ _));refine blk_put (cs := #[.int .i64 ((rd_T38 l1 x9_2).f0),.int .i64 ((rd_T38 l1 x9_2).f1),.int .i64 ((rd_T38 l1 x9_2).f2),.slice none 0 0,.int .i64 0]) ?_ 3 _ rfl;(with_reducible repeat (first|refine blk_drewN ?_ _|refine blk_drew ?_|refine blk_alloc ?_ _));refine blk_put (cs := #[.int .i64 ((rd_T38 l1 x9_2).f0),.int .i64 ((rd_T38 l1 x9_2).f1),.int .i64 0,.slice none 0 0,.int .i64 0]) ?_ 2 _ rfl;(with_reducible repeat (first|refine blk_drewN ?_ _|refine blk_drew ?_|refine blk_alloc ?_ _));refine blk_put (cs := #[.int .i64 ((rd_T38 l1 x9_2).f0),.int .i64 0,.int .i64 0,.slice none 0 0,.int .i64 0]) ?_ 1 _ rfl;(with_reducible repeat (first|refine blk_drewN ?_ _|refine blk_drew ?_|refine blk_alloc ?_ _));refine blk_put (cs := #[.int .i64 0,.int .i64 0,.int .i64 0,.slice none 0 0,.int .i64 0]) ?_ 0 _ rfl;(with_reducible repeat (first|refine blk_drewN ?_ _|refine blk_drew ?_|refine blk_alloc ?_ _));exact BK250.out⟩
            have n3_ : Aside0 (Below w.heap.size w (((((w25.setCell ⟨gb250,0,none⟩ (.int .i64 ((rd_T38 l1 x9_2).f0))).setCell ⟨gb250,1,none⟩ (.int .i64 ((rd_T38 l1 x9_2).f1))).setCell ⟨gb250,2,none⟩ (.int .i64 ((rd_T38 l1 x9_2).f2))).setCell ⟨gb250,3,none⟩ (.slice A249_3 ((rd_T38 l1 x9_2).f3).length c249_3)).setCell ⟨gb250,4,none⟩ (.int .i64 ((rd_T38 l1 x9_2).f4)))) := ⟨by repeat (first|(with_reducible first|exact HB.out|apply below_alloc|apply pw_below_drewN|apply below_drew1|refine below_set ?_ GE250.out)|exact HB.out)⟩
            (try clear HO_7)
            (try clear HO_8)
            (try clear BK250)
            (try clear HB)
            (try simp only [IntKind.wrap_u8, IntKind.wrap_u32])
            generalize (((((w25.setCell ⟨gb250,0,none⟩ (.int .i64 ((rd_T38 l1 x9_2).f0))).setCell ⟨gb250,1,none⟩ (.int .i64 ((rd_T38 l1 x9_2).f1))).setCell ⟨gb250,2,none⟩ (.int .i64 ((rd_T38 l1 x9_2).f2))).setCell ⟨gb250,3,none⟩ (.slice A249_3 ((rd_T38 l1 x9_2).f3).length c249_3)).setCell ⟨gb250,4,none⟩ (.int .i64 ((rd_T38 l1 x9_2).f4))) = w27 at n0_ n1_ n2_ n3_ ⊢
            have HO_7 := n0_
            have HO_8 := n1_
            have BK250 := n2_
            have HB := n3_
            clear n0_ n1_ n2_ n3_
            (try (rw [drewN_self w27];generalize hq_ : World.drewN w27 _ = w27;have n0_ : Aside0 (Kd.S (Kd.slice 5 (Kd.int .u8)) 36 w27 w.heap.size (fun k_ => some k_ ≠ (u8 : Value).ownBlock) u7 x7_2) := ⟨by rw [← hq_];exact (by (with_reducible repeat (first|apply Kd.S_alloc|apply Kd.S_drewN|apply Kd.S_drew));exact HO_7.out)⟩;have n1_ : Aside0 (Kd.S (Kd.slice 5 (Kd.int .u8)) 36 w27 w.heap.size (fun k_ => some k_ ≠ (u7 : Value).ownBlock) u8 x8_2) := ⟨by rw [← hq_];exact (by (with_reducible repeat (first|apply Kd.S_alloc|apply Kd.S_drewN|apply Kd.S_drew));exact HO_8.out)⟩;have n2_ : Aside0 (w27.heap[gb250]? = some (.cells #[.int .i64 ((rd_T38 l1 x9_2).f0),.int .i64 ((rd_T38 l1 x9_2).f1),.int .i64 ((rd_T38 l1 x9_2).f2),.slice A249_3 ((rd_T38 l1 x9_2).f3).length c249_3,.int .i64 ((rd_T38 l1 x9_2).f4)] 38 (0,0))) := ⟨by rw [← hq_];exact (by (with_reducible repeat (first|refine blk_drewN ?_ _|refine blk_drew ?_|refine blk_alloc ?_ _));exact BK250.out)⟩;have n3_ : Aside0 (Below w.heap.size w w27) := ⟨by rw [← hq_];exact (by repeat (first|(with_reducible first|exact HB.out|apply below_alloc|apply pw_below_drewN|apply below_drew1|refine below_set ?_ GE250.out)|exact HB.out))⟩;clear HO_7 HO_8 BK250 HB hq_;have HO_7 := n0_;have HO_8 := n1_;have BK250 := n2_;have HB := n3_;clear n0_ n1_ n2_ n3_))
            have n0_ := Aside0.mk (Kd.S_drew HO_7.out)
            have n1_ := Aside0.mk (Kd.S_drew HO_8.out)
            have n2_ := Aside0.mk (blk_drew BK250.out)
            have n3_ := Aside0.mk (below_drew1 HB.out)
            clear HO_7
            clear HO_8
            clear BK250
            clear HB
            have HO_7 := n0_
            have HO_8 := n1_
            have BK250 := n2_
            have HB := n3_
            clear n0_ n1_ n2_ n3_
            refine start_ (n := 15) (S := fun w' => w'.cell? ⟨gb250,0,none⟩ = some (.int .i64 ((rd_T38 l1 x9_2).f0)) ∧ w'.cell? ⟨gb250,1,none⟩ = some (.int .i64 ((rd_T38 l1 x9_2).f1)) ∧ w'.cell? ⟨gb250,2,none⟩ = some (.int .i64 ((rd_T38 l1 x9_2).f2)) ∧ w'.cell? ⟨gb250,3,none⟩ = some (.slice A249_3 ((rd_T38 l1 x9_2).f3).length c249_3) ∧ w'.cell? ⟨gb250,4,none⟩ = some (.int .i64 ((rd_T38 l1 x9_2).f4))) (ds := []) #[false,false,false,false,false,false,false,false,false,false,false,false,false,false,false] (by kernel_rfl) rfl rfl ⟨(blk_cell BK250.out 0).trans rfl,(blk_cell BK250.out 1).trans rfl,(blk_cell BK250.out 2).trans rfl,(blk_cell BK250.out 3).trans rfl,(blk_cell BK250.out 4).trans rfl⟩ (fun hHeld => ?_);refine with_tabW strakeref15_Build.tab8 strakeref15_Build.bits8 (fun HT_ HW_ => ?_)
            generalize w27.drew = w28 at HO_7 HO_8 BK250 HB hHeld ⊢
            refine pure_ (i := 0) (N := some 41) (v := ?_) (a' := ?_) #[true,false,false,false,false,false,false,false,false,false,false,false,false,false,false] rfl rfl (any_of HT_.out (by kernel_rfl)) (fun _ _ _ h => h) (Or.inl ⟨by rfl,?_⟩) ?_ ?_
            rotate_left
            ·intro w'
             go_simp
             with_reducible rfl
            rotate_left
            ·simp only [Act.put, List.setIfInBounds_toArray, List.set_cons_zero, List.set_cons_succ, i64_w, i32_w]
             rfl
            refine pure_ (i := 2) (N := some 43) (v := ?_) (a' := ?_) #[true,false,true,false,false,false,false,false,false,false,false,false,false,false,false] rfl rfl (any_of HT_.out (by kernel_rfl)) (fun _ _ _ h => h) (Or.inl ⟨by rfl,?_⟩) ?_ ?_
            rotate_left
            ·intro w'
             go_simp
             with_reducible rfl
            rotate_left
            ·simp only [Act.put, List.setIfInBounds_toArray, List.set_cons_zero, List.set_cons_succ, i64_w, i32_w]
             rfl
            refine pure_ (i := 4) (N := some 45) (v := ?_) (a' := ?_) #[true,false,true,false,true,false,false,false,false,false,false,false,false,false,false] rfl rfl (any_of HT_.out (by kernel_rfl)) (fun _ _ _ h => h) (Or.inl ⟨by rfl,?_⟩) ?_ ?_
            rotate_left
            ·intro w'
             go_simp
             with_reducible rfl
            rotate_left
            ·simp only [Act.put, List.setIfInBounds_toArray, List.set_cons_zero, List.set_cons_succ, i64_w, i32_w]
             rfl
            refine take_ (i := 1) (N := some 42) (v := ?_) (a' := ?_) #[true,true,true,false,true,false,false,false,false,false,false,false,false,false,false] rfl rfl (take_ofW HT_.out HW_.out (by kernel_rfl)) (fun _ _ _ h => h) (Or.inl ⟨by rfl,?_⟩) hHeld ?_ ?_
            rotate_left
            ·rintro w' ⟨s0, s1, s2, s3, s4⟩
             go_simp
             with_reducible rfl
            rotate_left
            ·simp only [Act.put, List.setIfInBounds_toArray, List.set_cons_zero, List.set_cons_succ, i64_w, i32_w]
             rfl
            refine take_ (i := 3) (N := some 44) (v := ?_) (a' := ?_) #[true,true,true,true,true,false,false,false,false,false,false,false,false,false,false] rfl rfl (take_ofW HT_.out HW_.out (by kernel_rfl)) (fun _ _ _ h => h) (Or.inl ⟨by rfl,?_⟩) hHeld ?_ ?_
            rotate_left
            ·rintro w' ⟨s0, s1, s2, s3, s4⟩
             go_simp
             with_reducible rfl
            rotate_left
            ·simp only [Act.put, List.setIfInBounds_toArray, List.set_cons_zero, List.set_cons_succ, i64_w, i32_w]
             rfl
            refine take_ (i := 5) (N := some 46) (v := ?_) (a' := ?_) #[true,true,true,true,true,true,false,false,false,false,false,false,false,false,false] rfl rfl (take_ofW HT_.out HW_.out (by kernel_rfl)) (fun _ _ _ h => h) (Or.inl ⟨by rfl,?_⟩) hHeld ?_ ?_
            rotate_left
            ·rintro w' ⟨s0, s1, s2, s3, s4⟩
             go_simp
             with_reducible rfl
            rotate_left
            ·simp only [Act.put, List.setIfInBounds_toArray, List.set_cons_zero, List.set_cons_succ, i64_w, i32_w]
             rfl
            refine pure_ (i := 6) (N := some 47) (v := ?_) (a' := ?_) #[true,true,true,true,true,true,true,false,false,false,false,false,false,false,false] rfl rfl (any_of HT_.out (by kernel_rfl)) (fun _ _ _ h => h) (Or.inl ⟨by rfl,?_⟩) ?_ ?_
            rotate_left
            ·intro w'
             go_simp
             with_reducible rfl
            rotate_left
            ·simp only [Act.put, List.setIfInBounds_toArray, List.set_cons_zero, List.set_cons_succ, i64_w, i32_w]
             rfl
            refine take_ (i := 7) (N := some 48) (v := ?_) (a' := ?_) #[true,true,true,true,true,true,true,true,false,false,false,false,false,false,false] rfl rfl (take_ofW HT_.out HW_.out (by kernel_rfl)) (fun _ _ _ h => h) (Or.inl ⟨by rfl,?_⟩) hHeld ?_ ?_
            rotate_left
            ·rintro w' ⟨s0, s1, s2, s3, s4⟩
             go_simp
             with_reducible rfl
            rotate_left
            ·simp only [Act.put, List.setIfInBounds_toArray, List.set_cons_zero, List.set_cons_succ, i64_w, i32_w]
             rfl
            refine one_ (i := 8) (N := some 49) #[true,true,true,true,true,true,true,true,true,false,false,false,false,false,false] rfl rfl (one_of HT_.out (by kernel_rfl)) (by decide) (fun K hK => ?_)
            refine goes_ Try.func26 (by kernel_rfl) rfl #[.agg #[.int .i64 ((rd_T38 l1 x9_2).f0),.int .i64 ((rd_T38 l1 x9_2).f1),.int .i64 ((rd_T38 l1 x9_2).f2),.slice A249_3 ((rd_T38 l1 x9_2).f3).length c249_3,.int .i64 ((rd_T38 l1 x9_2).f4)]] (by rfl) rfl rfl (by (try simp only [List.map_toArray,List.map_cons,List.map_nil]);first|done|rfl|(simp only [List.length_drop,List.length_take];rfl)) ?_
            with_reducible refine (strakeref15_Sector.calls ((rd_T38 l1 x9_2).f0) ((rd_T38 l1 x9_2).f1) ((rd_T38 l1 x9_2).f2) _ _ ((rd_T38 l1 x9_2).f3) ((rd_T38 l1 x9_2).f4) t251 _ ?side1 ?side2 A10.out).mono ?_
            (case side1 => repeat (first|exact (Kd.C_below HR249_3.out HB.out)|(with_reducible refine Kd.C_alloc ?_ _)|(with_reducible refine Kd.C_drewN ?_ _)|(with_reducible refine Kd.C_drew ?_)))
            (case side2 => exact HC249_3.out)
            rintro e w29 ⟨v252, rfl, ho0, hb⟩
            refine ⟨_, rfl, ?_⟩
            have n0_ := Aside0.mk (Kd.S_elder' (by (with_reducible repeat (first|apply Kd.S_alloc|apply Kd.S_drewN|apply Kd.S_drew));exact HO_7.out) (Kd.R_base ho0) hb)
            have n1_ := Aside0.mk (Kd.S_elder' (by (with_reducible repeat (first|apply Kd.S_alloc|apply Kd.S_drewN|apply Kd.S_drew));exact HO_8.out) (Kd.R_base ho0) hb)
            have n2_ := Aside0.mk (Kd.R_lower ho0 (below_size (by repeat (first|(with_reducible first|exact HB.out|apply below_alloc|apply pw_below_drewN|apply below_drew1|refine below_set ?_ GE250.out)|exact HB.out))))
            have n3_ := Aside0.mk (blk_below (g := gb250) (o := .cells #[.int .i64 ((rd_T38 l1 x9_2).f0),.int .i64 ((rd_T38 l1 x9_2).f1),.int .i64 ((rd_T38 l1 x9_2).f2),.slice A249_3 ((rd_T38 l1 x9_2).f3).length c249_3,.int .i64 ((rd_T38 l1 x9_2).f4)] 38 (0,0)) (by (with_reducible repeat (first|refine blk_drewN ?_ _|refine blk_drew ?_|refine blk_alloc ?_ _));exact BK250.out) hb)
            have n4_ := Aside0.mk (below_step (by repeat (first|(with_reducible first|exact HB.out|apply below_alloc|apply pw_below_drewN|apply below_drew1|refine below_set ?_ GE250.out)|exact HB.out)) hb)
            clear HO_7
            clear HO_8
            clear BK250
            clear HB
            have HO_7 := n0_
            have HO_8 := n1_
            have HO253 := n2_
            have BK250 := n3_
            have HB := n4_
            clear n0_ n1_ n2_ n3_ n4_
            (try clear hb)
            (try clear hb2)
            (try clear hk)
            (try clear hi)
            (try clear ho0)
            obtain ⟨Ao30, co30, eo30⟩ := Kd.R_slice HO253.out
            (first|subst eo30|(injection eo30 with f1_ f2_ f3_;have f4_ := f1_.symm;have f5_ := f3_.symm;clear f1_ f2_ f3_;subst f4_;subst f5_))
            refine hK.out _ _ ⟨(blk_cell BK250.out 0).trans rfl,(blk_cell BK250.out 1).trans rfl,(blk_cell BK250.out 2).trans rfl,(blk_cell BK250.out 3).trans rfl,(blk_cell BK250.out 4).trans rfl⟩ (fun hHeld => ?_)
            clear hK K
            refine norm_ (a' := ?_) ?_ ?_
            rotate_left
            ·show Act.put _ (some 49) _ = _
             simp only [Act.put, List.setIfInBounds_toArray, List.set_cons_zero, List.set_cons_succ, i64_w, i32_w]
             rfl
            refine one_ (i := 9) (N := some 50) #[true,true,true,true,true,true,true,true,true,true,false,false,false,false,false] rfl rfl (one_of HT_.out (by kernel_rfl)) (by decide) (fun K hK => ?_)
            refine goes_ Try.func25 (by kernel_rfl) rfl #[.agg #[.int .i64 ((rd_T38 l1 x9_2).f0),.int .i64 ((rd_T38 l1 x9_2).f1),.int .i64 ((rd_T38 l1 x9_2).f2)],.slice Ao30 t251.length co30] (by rfl) rfl rfl (by (try simp only [List.map_toArray,List.map_cons,List.map_nil]);first|done|rfl|(simp only [List.length_drop,List.length_take];rfl)) ?_
            with_reducible refine (strakeref05_Pack.calls k2 ((rd_T38 l1 x9_2).f0) ((rd_T38 l1 x9_2).f1) ((rd_T38 l1 x9_2).f2) _ _ t251 t254 t257 _ ?side1 ?side2 A11.out).mono ?_
            (case side1 => repeat (first|exact (Kd.R_reads' HO253.out).2.2|(with_reducible refine Kd.C_alloc ?_ _)|(with_reducible refine Kd.C_drewN ?_ _)|(with_reducible refine Kd.C_drew ?_)))
            (case side2 => exact (Kd.R_reads' HO253.out).2.1)
            rintro e w31 ⟨v255, rfl, ho0, hb⟩
            refine ⟨_, rfl, ?_⟩
            have n0_ := Aside0.mk (Kd.S_elder' (by (with_reducible repeat (first|apply Kd.S_alloc|apply Kd.S_drewN|apply Kd.S_drew));exact HO_7.out) (Kd.R_base ho0) hb)
            have n1_ := Aside0.mk (Kd.S_elder' (by (with_reducible repeat (first|apply Kd.S_alloc|apply Kd.S_drewN|apply Kd.S_drew));exact HO_8.out) (Kd.R_base ho0) hb)
            have n2_ := Aside0.mk (Kd.R_elder' (by (with_reducible repeat (first|apply Kd.R_alloc|apply Kd.R_drewN|apply Kd.R_drew));exact HO253.out) (Kd.R_base ho0) hb)
            have n3_ := Aside0.mk (Kd.R_lower (Kd.R_new' ho0 (Kd.R_lt (by (with_reducible repeat (first|apply Kd.R_alloc|apply Kd.R_drewN|apply Kd.R_drew));exact HO253.out))) (below_size (by repeat (first|(with_reducible first|exact HB.out|apply below_alloc|apply pw_below_drewN|apply below_drew1|refine below_set ?_ GE250.out)|exact HB.out))))
            have n4_ := Aside0.mk (blk_below (g := gb250) (o := .cells #[.int .i64 ((rd_T38 l1 x9_2).f0),.int .i64 ((rd_T38 l1 x9_2).f1),.int .i64 ((rd_T38 l1 x9_2).f2),.slice A249_3 ((rd_T38 l1 x9_2).f3).length c249_3,.int .i64 ((rd_T38 l1 x9_2).f4)] 38 (0,0)) (by (with_reducible repeat (first|refine blk_drewN ?_ _|refine blk_drew ?_|refine blk_alloc ?_ _));exact BK250.out) hb)
            have n5_ := Aside0.mk (below_step (by repeat (first|(with_reducible first|exact HB.out|apply below_alloc|apply pw_below_drewN|apply below_drew1|refine below_set ?_ GE250.out)|exact HB.out)) hb)
            clear HO_7
            clear HO_8
            clear HO253
            clear BK250
            clear HB
            have HO_7 := n0_
            have HO_8 := n1_
            have HO253 := n2_
            have HO256 := n3_
            have BK250 := n4_
            have HB := n5_
            clear n0_ n1_ n2_ n3_ n4_ n5_
            (try clear hb)
            (try clear hb2)
            (try clear hk)
            (try clear hi)
            (try clear ho0)
            refine hK.out _ _ ⟨(blk_cell BK250.out 0).trans rfl,(blk_cell BK250.out 1).trans rfl,(blk_cell BK250.out 2).trans rfl,(blk_cell BK250.out 3).trans rfl,(blk_cell BK250.out 4).trans rfl⟩ (fun hHeld => ?_)
            clear hK K
            refine norm_ (a' := ?_) ?_ ?_
            rotate_left
            ·show Act.put _ (some 50) _ = _
             simp only [Act.put, List.setIfInBounds_toArray, List.set_cons_zero, List.set_cons_succ, i64_w, i32_w]
             rfl
            refine pure_ (i := 10) (N := some 40) (v := ?_) (a' := ?_) #[true,true,true,true,true,true,true,true,true,true,true,false,false,false,false] rfl rfl (any_of HT_.out (by kernel_rfl)) (fun _ _ _ h => h) (Or.inl ⟨by rfl,?_⟩) ?_ ?_
            rotate_left
            ·intro w'
             go_simp
             with_reducible rfl
            rotate_left
            ·simp only [Act.put, List.setIfInBounds_toArray, List.set_cons_zero, List.set_cons_succ, i64_w, i32_w]
             rfl
            refine pure_ (i := 11) (N := some 51) (v := ?_) (a' := ?_) #[true,true,true,true,true,true,true,true,true,true,true,true,false,false,false] rfl rfl (any_of HT_.out (by kernel_rfl)) (fun _ _ _ h => h) (Or.inl ⟨by rfl,?_⟩) ?_ ?_
            rotate_left
            ·intro w'
             go_simp
             with_reducible rfl
            rotate_left
            ·simp only [Act.put, List.setIfInBounds_toArray, List.set_cons_zero, List.set_cons_succ, i64_w, i32_w]
             rfl
            refine pure_ (i := 12) (N := some 52) (v := ?_) (a' := ?_) #[true,true,true,true,true,true,true,true,true,true,true,true,true,false,false] rfl rfl (any_of HT_.out (by kernel_rfl)) (fun _ _ _ h => h) (Or.inl ⟨by rfl,?_⟩) ?_ ?_
            rotate_left
            ·intro w'
             go_simp
             with_reducible rfl
            rotate_left
            ·simp only [Act.put, List.setIfInBounds_toArray, List.set_cons_zero, List.set_cons_succ, i64_w, i32_w]
             rfl
            refine pure_ (i := 13) (N := some 11) (v := ?_) (a' := ?_) #[true,true,true,true,true,true,true,true,true,true,true,true,true,true,false] rfl rfl (any_of HT_.out (by kernel_rfl)) (fun _ _ _ h => h) (Or.inl ⟨by rfl,?_⟩) ?_ ?_
            rotate_left
            ·intro w'
             go_simp
             with_reducible rfl
            rotate_left
            ·simp only [Act.put, List.setIfInBounds_toArray, List.set_cons_zero, List.set_cons_succ, i64_w, i32_w]
             rfl
            refine pure_ (i := 14) (N := some 12) (v := ?_) (a' := ?_) #[true,true,true,true,true,true,true,true,true,true,true,true,true,true,true] rfl rfl (any_of HT_.out (by kernel_rfl)) (fun _ _ _ h => h) (Or.inl ⟨by rfl,?_⟩) ?_ ?_
            rotate_left
            ·intro w'
             go_simp
             with_reducible rfl
            rotate_left
            ·simp only [Act.put, List.setIfInBounds_toArray, List.set_cons_zero, List.set_cons_succ, i64_w, i32_w]
             rfl
            refine done_ (done_of HT_.out (by kernel_rfl)) ?_
            have hcz32_0 : w31.cell? ⟨gb250,0,none⟩ = some (.int .i64 ((rd_T38 l1 x9_2).f0)) := (blk_cell BK250.out 0).trans rfl
            have hcz32_1 : w31.cell? ⟨gb250,1,none⟩ = some (.int .i64 ((rd_T38 l1 x9_2).f1)) := (blk_cell BK250.out 1).trans rfl
            have hcz32_2 : w31.cell? ⟨gb250,2,none⟩ = some (.int .i64 ((rd_T38 l1 x9_2).f2)) := (blk_cell BK250.out 2).trans rfl
            have hcz32_3 : w31.cell? ⟨gb250,3,none⟩ = some (.slice A249_3 ((rd_T38 l1 x9_2).f3).length c249_3) := (blk_cell BK250.out 3).trans rfl
            have hcz32_4 : w31.cell? ⟨gb250,4,none⟩ = some (.int .i64 ((rd_T38 l1 x9_2).f4)) := (blk_cell BK250.out 4).trans rfl
            have hfz32_0 := blk_frozen BK250.out 0
            have hfz32_1 := blk_frozen BK250.out 1
            have hfz32_2 := blk_frozen BK250.out 2
            have hfz32_3 := blk_frozen BK250.out 3
            have hfz32_4 := blk_frozen BK250.out 4
            try go_wp2_with (first|((with_reducible refine gate_callee (f := 26) rfl ?_);refine goesL_ (some 62) rfl rfl Try.func26 (by kernel_rfl) rfl #[.agg #[.int .i64 ((rd_T38 l1 x9_2).f0),.int .i64 ((rd_T38 l1 x9_2).f1),.int .i64 ((rd_T38 l1 x9_2).f2),.slice A249_3 ((rd_T38 l1 x9_2).f3).length c249_3,.int .i64 ((rd_T38 l1 x9_2).f4)]] rfl (by (try simp only [List.map_toArray,List.map_cons,List.map_nil]);first|done|rfl|(simp only [List.length_drop,List.length_take];rfl)) ?_;(with_reducible refine (strakeref15_Sector.calls ((rd_T38 l1 x9_2).f0) ((rd_T38 l1 x9_2).f1) ((rd_T38 l1 x9_2).f2) _ _ ((rd_T38 l1 x9_2).f3) ((rd_T38 l1 x9_2).f4) t258 _ ?side1 ?side2 A22.out).mono ?_);(case side1 => repeat (first|exact (Kd.C_below HR249_3.out HB.out)|(with_reducible refine Kd.C_alloc ?_ _)|(with_reducible refine Kd.C_drewN ?_ _)|(with_reducible refine Kd.C_drew ?_)));(case side2 => exact HC249_3.out);rintro e w33 ⟨v259,rfl,ho0,hb⟩;refine ⟨_,rfl,?_⟩;have n0_ := Aside0.mk (Kd.S_elder' (by (with_reducible repeat (first|apply Kd.S_alloc|apply Kd.S_drewN|apply Kd.S_drew));exact HO_7.out) (Kd.R_base ho0) hb);have n1_ := Aside0.mk (Kd.S_elder' (by (with_reducible repeat (first|apply Kd.S_alloc|apply Kd.S_drewN|apply Kd.S_drew));exact HO_8.out) (Kd.R_base ho0) hb);have n2_ := Aside0.mk (Kd.R_elder' (by (with_reducible repeat (first|apply Kd.R_alloc|apply Kd.R_drewN|apply Kd.R_drew));exact HO253.out) (Kd.R_base ho0) hb);have n3_ := Aside0.mk (Kd.R_elder' (by (with_reducible repeat (first|apply Kd.R_alloc|apply Kd.R_drewN|apply Kd.R_drew));exact HO256.out) (Kd.R_base ho0) hb);have n4_ := Aside0.mk (Kd.R_lower (Kd.R_new' (Kd.R_new' ho0 (Kd.R_lt (by (with_reducible repeat (first|apply Kd.R_alloc|apply Kd.R_drewN|apply Kd.R_drew));exact HO253.out))) (Kd.R_lt (by (with_reducible repeat (first|apply Kd.R_alloc|apply Kd.R_drewN|apply Kd.R_drew));exact HO256.out))) (below_size (by repeat (first|(with_reducible first|exact HB.out|apply below_alloc|apply pw_below_drewN|apply below_drew1|refine below_set ?_ GE250.out)|exact HB.out))));have n5_ := Aside0.mk (blk_below (g := gb250) (o := .cells #[.int .i64 ((rd_T38 l1 x9_2).f0),.int .i64 ((rd_T38 l1 x9_2).f1),.int .i64 ((rd_T38 l1 x9_2).f2),.slice A249_3 ((rd_T38 l1 x9_2).f3).length c249_3,.int .i64 ((rd_T38 l1 x9_2).f4)] 38 (0,0)) (by (with_reducible repeat (first|refine blk_drewN ?_ _|refine blk_drew ?_|refine blk_alloc ?_ _));exact BK250.out) hb);have n6_ := Aside0.mk (below_step (by repeat (first|(with_reducible first|exact HB.out|apply below_alloc|apply pw_below_drewN|apply below_drew1|refine below_set ?_ GE250.out)|exact HB.out)) hb);clear HO_7;clear HO_8;clear HO253;clear HO256;clear BK250;clear HB;have HO_7 := n0_;have HO_8 := n1_;have HO253 := n2_;have HO256 := n3_;have HO260 := n4_;have BK250 := n5_;have HB := n6_;clear n0_ n1_ n2_ n3_ n4_ n5_ n6_;(try clear hb);(try clear hb2);(try clear hk);(try clear hi);(try clear ho0);obtain ⟨Ao35,co35,eo35⟩ := Kd.R_slice HO260.out;subst eo35)|((with_reducible refine gate_builtin (b := .append) (xs := #[.tmp 60,.tmp 63]) rfl ?_);(try (refine gate_guard (by rfl) ?_;dsimp only));at_builtin;refine Kd.S_append (Kd.slice 5 (Kd.int .u8)) (w0 := w) w.heap.size rfl (.tmp 60) (.tmp 63) 25 36 (.slice none 0 0) 24 rfl Try.underlying25 info36 rfl (by decide) (by omega) u7 x7_2 t258 [.slice Ao35 t258.length co35] (fun k_ => some k_ ≠ (u8 : Value).ownBlock ∧ some k_ ≠ (.slice Ao30 t251.length co30 : Value).ownBlock ∧ some k_ ≠ (v255 : Value).ownBlock) (fun k_ => some k_ = (.slice Ao35 t258.length co35 : Value).ownBlock) rfl rfl ?aP (fun k_ hk_ => ((Kd.R_mono (ok' := fun k_ => ((fun k_ => some k_ ≠ (u8 : Value).ownBlock ∧ some k_ ≠ (.slice Ao30 t251.length co30 : Value).ownBlock ∧ some k_ ≠ (v255 : Value).ownBlock)) k_ ∧ some k_ ≠ (u7 : Value).ownBlock) (Kd.R_apart' (Kd.R_apart' (HO260.out) (Kd.S_typed HO_8.out) (by decide)) (Kd.S_typed HO_7.out) (by decide)) (fun k_ hk => ⟨⟨hk.1.2,⟨hk.1.1.1.2,hk.1.1.2⟩⟩,hk.2⟩))).1 k_ hk_.symm) ?aF ?aO ?aB ?aS ?aL ?_;(case aP => exact Kd.M_row (Kd.R_mono (Kd.R_tight rfl (Kd.R_mono (ok' := fun k_ => ((fun k_ => some k_ ≠ (u8 : Value).ownBlock ∧ some k_ ≠ (.slice Ao30 t251.length co30 : Value).ownBlock ∧ some k_ ≠ (v255 : Value).ownBlock)) k_ ∧ some k_ ≠ (u7 : Value).ownBlock) (Kd.R_apart' (Kd.R_apart' (HO260.out) (Kd.S_typed HO_8.out) (by decide)) (Kd.S_typed HO_7.out) (by decide)) (fun k_ hk => ⟨⟨hk.1.2,⟨hk.1.1.1.2,hk.1.1.2⟩⟩,hk.2⟩))) (fun _ h_ => h_)));(case aB => exact (by repeat (first|(with_reducible first|exact HB.out|apply below_alloc|apply pw_below_drewN|apply below_drew1|refine below_set ?_ GE250.out)|exact HB.out)));(case aF => exact (fun k_ hk => ⟨Kd.fresh' (Kd.S_lt (by (with_reducible repeat (first|apply Kd.S_alloc|apply Kd.S_drewN|apply Kd.S_drew));exact HO_8.out)) k_ hk,Kd.fresh' (Kd.R_lt (by (with_reducible repeat (first|apply Kd.R_alloc|apply Kd.R_drewN|apply Kd.R_drew));exact HO253.out)) k_ hk,Kd.fresh' (Kd.R_lt (by (with_reducible repeat (first|apply Kd.R_alloc|apply Kd.R_drewN|apply Kd.R_drew));exact HO256.out)) k_ hk⟩));(case aO => exact (by (with_reducible repeat (first|apply Kd.S_alloc|apply Kd.S_drewN|apply Kd.S_drew));exact Kd.S_mono HO_7.out (fun k_ hk => ⟨⟨hk.1.1.1,⟨hk.1.1.2,hk.1.2⟩⟩,fun e_ => hk.2 e_⟩)));(case aS => exact (below_size (by repeat (first|(with_reducible first|exact HB.out|apply below_alloc|apply pw_below_drewN|apply below_drew1|refine below_set ?_ GE250.out)|exact HB.out))));(case aL => have := LMc23.out;omega);intro v262 w34 ho hb hg hat;rw [← Ny261.out] at ho;have n0_ := Aside0.mk (Kd.S_after (ok := (fun k_ => some k_ ≠ (.slice Ao30 t251.length co30 : Value).ownBlock ∧ some k_ ≠ (v255 : Value).ownBlock ∧ some k_ ≠ (.slice Ao35 t258.length co35 : Value).ownBlock)) (by (with_reducible repeat (first|apply Kd.S_alloc|apply Kd.S_drewN|apply Kd.S_drew));exact Kd.S_mono HO_8.out (fun _ hk => ⟨⟨hk.1.1.2,⟨hk.1.2,hk.2⟩⟩,hk.1.1.1⟩)) hg hat);have n1_ := Aside0.mk (blk_grown (g := gb250) (o := .cells #[.int .i64 ((rd_T38 l1 x9_2).f0),.int .i64 ((rd_T38 l1 x9_2).f1),.int .i64 ((rd_T38 l1 x9_2).f2),.slice A249_3 ((rd_T38 l1 x9_2).f3).length c249_3,.int .i64 ((rd_T38 l1 x9_2).f4)] 38 (0,0)) (by (with_reducible repeat (first|refine blk_drewN ?_ _|refine blk_drew ?_|refine blk_alloc ?_ _));exact BK250.out) hg (Kd.S_ne HO_7.out BK250.out (by decide)));have n2_ := Aside0.mk (Kd.R_over' (by (with_reducible repeat (first|apply Kd.R_alloc|apply Kd.R_drewN|apply Kd.R_drew));exact HO253.out) (Kd.S_typed (by (with_reducible repeat (first|apply Kd.S_alloc|apply Kd.S_drewN|apply Kd.S_drew));exact HO_7.out)) (by decide) hg);have n3_ := Aside0.mk (Kd.R_over' (by (with_reducible repeat (first|apply Kd.R_alloc|apply Kd.R_drewN|apply Kd.R_drew));exact HO256.out) (Kd.S_typed (by (with_reducible repeat (first|apply Kd.S_alloc|apply Kd.S_drewN|apply Kd.S_drew));exact HO_7.out)) (by decide) hg);have n4_ := Aside0.mk (hb);have n5_ := Aside0.mk (ho);clear HO_8;clear BK250;clear HO253;clear HO256;clear HB;clear HO_7;clear HO260;have HO_8 := n0_;have BK250 := n1_;have HO253 := n2_;have HO256 := n3_;have HB := n4_;have HO263 := n5_;clear n0_ n1_ n2_ n3_ n4_ n5_;clear ho hb hg hat;obtain ⟨Ao37,co37,eo37⟩ := Kd.R_slice HO256.out;subst eo37)|((with_reducible refine gate_builtin (b := .append) (xs := #[.tmp 65,.tmp 67]) rfl ?_);(try (refine gate_guard (by rfl) ?_;dsimp only));at_builtin;refine Kd.S_append (Kd.slice 5 (Kd.int .u8)) (w0 := w) w.heap.size rfl (.tmp 65) (.tmp 67) 25 36 (.slice none 0 0) 24 rfl Try.underlying25 info36 rfl (by decide) (by omega) u8 x8_2 t254 [.slice Ao37 t254.length co37] (fun k_ => some k_ ≠ (.slice Ao30 t251.length co30 : Value).ownBlock ∧ some k_ ≠ (v262 : Value).ownBlock) (fun k_ => some k_ = (.slice Ao37 t254.length co37 : Value).ownBlock) rfl rfl ?aP (fun k_ hk_ => ((Kd.R_mono (ok' := fun k_ => ((fun k_ => some k_ ≠ (.slice Ao30 t251.length co30 : Value).ownBlock ∧ some k_ ≠ (v262 : Value).ownBlock)) k_ ∧ some k_ ≠ (u8 : Value).ownBlock) (Kd.R_apart' (Kd.R_apart' (HO256.out) (Kd.S_typed HO263.out) (by decide)) (Kd.S_typed HO_8.out) (by decide)) (fun k_ hk => ⟨⟨hk.1.1.1.2,hk.1.2⟩,hk.2⟩))).1 k_ hk_.symm) ?aF ?aO ?aB ?aS ?aL ?_;(case aP => exact Kd.M_row (Kd.R_mono (Kd.R_tight rfl (Kd.R_mono (ok' := fun k_ => ((fun k_ => some k_ ≠ (.slice Ao30 t251.length co30 : Value).ownBlock ∧ some k_ ≠ (v262 : Value).ownBlock)) k_ ∧ some k_ ≠ (u8 : Value).ownBlock) (Kd.R_apart' (Kd.R_apart' (HO256.out) (Kd.S_typed HO263.out) (by decide)) (Kd.S_typed HO_8.out) (by decide)) (fun k_ hk => ⟨⟨hk.1.1.1.2,hk.1.2⟩,hk.2⟩))) (fun _ h_ => h_)));(case aB => exact (by repeat (first|(with_reducible first|exact HB.out|apply below_alloc|apply pw_below_drewN|apply below_drew1|refine below_set ?_ GE250.out)|exact HB.out)));(case aF => exact (fun k_ hk => ⟨Kd.fresh' (Kd.R_lt (by (with_reducible repeat (first|apply Kd.R_alloc|apply Kd.R_drewN|apply Kd.R_drew));exact HO253.out)) k_ hk,Kd.fresh' (Kd.S_lt (by (with_reducible repeat (first|apply Kd.S_alloc|apply Kd.S_drewN|apply Kd.S_drew));exact HO263.out)) k_ hk⟩));(case aO => exact (by (with_reducible repeat (first|apply Kd.S_alloc|apply Kd.S_drewN|apply Kd.S_drew));exact Kd.S_mono HO_8.out (fun k_ hk => ⟨⟨hk.1.1,hk.2⟩,fun e_ => hk.1.2.1 e_⟩)));(case aS => exact (below_size (by repeat (first|(with_reducible first|exact HB.out|apply below_alloc|apply pw_below_drewN|apply below_drew1|refine below_set ?_ GE250.out)|exact HB.out))));(case aL => have := LMc24.out;omega);intro v265 w36 ho hb hg hat;rw [← Ny264.out] at ho;have n0_ := Aside0.mk (blk_grown (g := gb250) (o := .cells #[.int .i64 ((rd_T38 l1 x9_2).f0),.int .i64 ((rd_T38 l1 x9_2).f1),.int .i64 ((rd_T38 l1 x9_2).f2),.slice A249_3 ((rd_T38 l1 x9_2).f3).length c249_3,.int .i64 ((rd_T38 l1 x9_2).f4)] 38 (0,0)) (by (with_reducible repeat (first|refine blk_drewN ?_ _|refine blk_drew ?_|refine blk_alloc ?_ _));exact BK250.out) hg (Kd.S_ne HO_8.out BK250.out (by decide)));have n1_ := Aside0.mk (Kd.R_over' (by (with_reducible repeat (first|apply Kd.R_alloc|apply Kd.R_drewN|apply Kd.R_drew));exact HO253.out) (Kd.S_typed (by (with_reducible repeat (first|apply Kd.S_alloc|apply Kd.S_drewN|apply Kd.S_drew));exact HO_8.out)) (by decide) hg);have n2_ := Aside0.mk (Kd.S_after (ok := (fun k_ => some k_ ≠ (.slice Ao30 t251.length co30 : Value).ownBlock ∧ some k_ ≠ (.slice Ao37 t254.length co37 : Value).ownBlock)) (by (with_reducible repeat (first|apply Kd.S_alloc|apply Kd.S_drewN|apply Kd.S_drew));exact Kd.S_mono HO263.out (fun _ hk => ⟨⟨hk.2.1,hk.2.2⟩,hk.1⟩)) hg hat);have n3_ := Aside0.mk (hb);have n4_ := Aside0.mk (ho);clear BK250;clear HO253;clear HO263;clear HB;clear HO_8;clear HO256;have BK250 := n0_;have HO253 := n1_;have HO263 := n2_;have HB := n3_;have HO266 := n4_;clear n0_ n1_ n2_ n3_ n4_;clear ho hb hg hat))
            go_roundg k2
            case measure => have := HJ2.out; have := HK2.out; omega
            case rel => exact ⟨(y261),(y264),(wrap64 (x9_2 + 1)),(by first|rfl|(simp;done)|(simp [*];done)),H',⟨by have := HJ2.out;have := HK2.out;omega⟩,⟨by (with_reducible repeat (first|apply Kd.S_alloc|apply Kd.S_drewN|apply Kd.S_drew));exact Kd.S_mono HO263.out (fun _ hk => hk.2)⟩,⟨by (with_reducible repeat (first|apply Kd.S_alloc|apply Kd.S_drewN|apply Kd.S_drew));exact Kd.S_mono HO266.out (fun _ hk => hk.2)⟩,⟨by repeat (first|(with_reducible first|exact HB.out|apply below_alloc|apply pw_below_drewN|apply below_drew1|refine below_set ?_ GE250.out)|exact HB.out)⟩⟩
           ·rw [if_neg c24] at H
            exact absurd H (by simp)
          ·rw [if_neg c23] at H
           exact absurd H (by simp)
        ·rw [if_neg c12] at H
         have c12b0 : (t257 == 0) = false := beq_eq_false_iff_ne.mpr c12
         have c12b1 : (t257 != 0) = true := bne_iff_ne.mpr c12
         simp only [Option.some.injEq, Prod.mk.injEq] at H
         obtain ⟨rfl, rfl, rfl⟩ := H
         have p249 : 0 ≤ (x9_2 : Int) := of_decide_eq_true (by first | (with_reducible assumption) | assumption)
         have q249 : x9_2 < (l1.length : Int) := of_decide_eq_true (by first | (with_reducible assumption) | assumption)
         obtain ⟨ad249,A249_3,c249_3,e249,hx249_0,hx249_1,hx249_2,hx249_3,hx249_4,hl249_3,hi249_3⟩ := at_T38 HR1.out x9_2 p249 q249
         cases e249
         replace hx249_0 := (HB.out.cell (World.block_lt_of_cell? w _ hx249_0)).trans hx249_0
         replace hx249_1 := (HB.out.cell (World.block_lt_of_cell? w _ hx249_1)).trans hx249_1
         replace hx249_2 := (HB.out.cell (World.block_lt_of_cell? w _ hx249_2)).trans hx249_2
         replace hx249_3 := (HB.out.cell (World.block_lt_of_cell? w _ hx249_3)).trans hx249_3
         replace hx249_4 := (HB.out.cell (World.block_lt_of_cell? w _ hx249_4)).trans hx249_4
         have HR249_3 := Aside0.mk hi249_3
         have HC249_3 := Aside0.mk hl249_3
         clear hi249_3 hl249_3
         replace p249 := eq_true p249
         replace q249 := eq_true q249
         try go_wp2_with (first|((with_reducible refine gate_dst (N := 10) rfl ?_);(try (refine gate_guard (by rfl) ?_;dsimp only));refine box_event ?hg (N := 10) ?hd (cs := #[.int .i64 0,.int .i64 0,.int .i64 0,.slice none 0 0,.int .i64 0]) (t := 38) ?hr ?_;(case hd => rfl);(case hg => rfl);(case hr => first|(go_simp;done)|(go_simp;rfl));intro gb250 hg w38 hbox hb;have n0_ := Aside0.mk (Kd.S_below (by (with_reducible repeat (first|apply Kd.S_alloc|apply Kd.S_drewN|apply Kd.S_drew));exact HO_7.out) hb);have n1_ := Aside0.mk (Kd.S_below (by (with_reducible repeat (first|apply Kd.S_alloc|apply Kd.S_drewN|apply Kd.S_drew));exact HO_8.out) hb);have n2_ := Aside0.mk (below_step (by repeat (first|(with_reducible first|exact HB.out|apply below_alloc|apply pw_below_drewN|apply below_drew1)|exact HB.out)) hb);have n3_ := Aside0.mk (hbox);have n4_ := Aside0.mk ((by rw [hg];exact (below_size (by repeat (first|(with_reducible first|exact HB.out|apply below_alloc|apply pw_below_drewN|apply below_drew1)|exact HB.out))) : w.heap.size ≤ gb250));have n5_ := Aside0.mk ((by rw [hg];exact (below_size (by repeat (first|(with_reducible first|exact HB.out|apply below_alloc|apply pw_below_drewN|apply below_drew1)|exact HB.out))) : w.heap.size ≤ gb250));clear HO_7;clear HO_8;clear HB;have HO_7 := n0_;have HO_8 := n1_;have HB := n2_;have BK250 := n3_;have GW250 := n4_;have GE250 := n5_;clear n0_ n1_ n2_ n3_ n4_ n5_;clear hb hbox hg;have hcz39_0 : w38.cell? ⟨gb250,0,none⟩ = some (.int .i64 0) := (blk_cell BK250.out 0).trans rfl;have hcz39_1 : w38.cell? ⟨gb250,1,none⟩ = some (.int .i64 0) := (blk_cell BK250.out 1).trans rfl;have hcz39_2 : w38.cell? ⟨gb250,2,none⟩ = some (.int .i64 0) := (blk_cell BK250.out 2).trans rfl;have hcz39_3 : w38.cell? ⟨gb250,3,none⟩ = some (.slice none 0 0) := (blk_cell BK250.out 3).trans rfl;have hcz39_4 : w38.cell? ⟨gb250,4,none⟩ = some (.int .i64 0) := (blk_cell BK250.out 4).trans rfl;have hfz39_0 := blk_frozen BK250.out 0;have hfz39_1 := blk_frozen BK250.out 1;have hfz39_2 := blk_frozen BK250.out 2;have hfz39_3 := blk_frozen BK250.out 3;have hfz39_4 := blk_frozen BK250.out 4))
         have n0_ : Aside0 (Kd.S (Kd.slice 5 (Kd.int .u8)) 36 (((((w38.setCell ⟨gb250,0,none⟩ (.int .i64 ((rd_T38 l1 x9_2).f0))).setCell ⟨gb250,1,none⟩ (.int .i64 ((rd_T38 l1 x9_2).f1))).setCell ⟨gb250,2,none⟩ (.int .i64 ((rd_T38 l1 x9_2).f2))).setCell ⟨gb250,3,none⟩ (.slice A249_3 ((rd_T38 l1 x9_2).f3).length c249_3)).setCell ⟨gb250,4,none⟩ (.int .i64 ((rd_T38 l1 x9_2).f4))) w.heap.size (fun k_ => some k_ ≠ (u8 : Value).ownBlock) u7 x7_2) := ⟨by (with_reducible repeat (first|apply Kd.S_alloc|apply Kd.S_drewN|apply Kd.S_drew));exact Kd.S_mono (Kd.S_far (p := ⟨gb250,4,none⟩) (Kd.S_far (p := ⟨gb250,3,none⟩) (Kd.S_far (p := ⟨gb250,2,none⟩) (Kd.S_far (p := ⟨gb250,1,none⟩) (Kd.S_far (p := ⟨gb250,0,none⟩) (Kd.S_types HO_7.out BK250.out (by decide)) (fun _ hk => hk.2) (.int .i64 ((rd_T38 l1 x9_2).f0))) (fun _ hk => hk.2) (.int .i64 ((rd_T38 l1 x9_2).f1))) (fun _ hk => hk.2) (.int .i64 ((rd_T38 l1 x9_2).f2))) (fun _ hk => hk.2) (.slice A249_3 ((rd_T38 l1 x9_2).f3).length c249_3)) (fun _ hk => hk.2) (.int .i64 ((rd_T38 l1 x9_2).f4))) (fun _ hk => hk.1)⟩
         have n1_ : Aside0 (Kd.S (Kd.slice 5 (Kd.int .u8)) 36 (((((w38.setCell ⟨gb250,0,none⟩ (.int .i64 ((rd_T38 l1 x9_2).f0))).setCell ⟨gb250,1,none⟩ (.int .i64 ((rd_T38 l1 x9_2).f1))).setCell ⟨gb250,2,none⟩ (.int .i64 ((rd_T38 l1 x9_2).f2))).setCell ⟨gb250,3,none⟩ (.slice A249_3 ((rd_T38 l1 x9_2).f3).length c249_3)).setCell ⟨gb250,4,none⟩ (.int .i64 ((rd_T38 l1 x9_2).f4))) w.heap.size (fun k_ => some k_ ≠ (u7 : Value).ownBlock) u8 x8_2) := ⟨by (with_reducible repeat (first|apply Kd.S_alloc|apply Kd.S_drewN|apply Kd.S_drew));exact Kd.S_mono (Kd.S_far (p := ⟨gb250,4,none⟩) (Kd.S_far (p := ⟨gb250,3,none⟩) (Kd.S_far (p := ⟨gb250,2,none⟩) (Kd.S_far (p := ⟨gb250,1,none⟩) (Kd.S_far (p := ⟨gb250,0,none⟩) (Kd.S_types HO_8.out BK250.out (by decide)) (fun _ hk => hk.2) (.int .i64 ((rd_T38 l1 x9_2).f0))) (fun _ hk => hk.2) (.int .i64 ((rd_T38 l1 x9_2).f1))) (fun _ hk => hk.2) (.int .i64 ((rd_T38 l1 x9_2).f2))) (fun _ hk => hk.2) (.slice A249_3 ((rd_T38 l1 x9_2).f3).length c249_3)) (fun _ hk => hk.2) (.int .i64 ((rd_T38 l1 x9_2).f4))) (fun _ hk => hk.1)⟩
         have n2_ : Aside0 ((((((w38.setCell ⟨gb250,0,none⟩ (.int .i64 ((rd_T38 l1 x9_2).f0))).setCell ⟨gb250,1,none⟩ (.int .i64 ((rd_T38 l1 x9_2).f1))).setCell ⟨gb250,2,none⟩ (.int .i64 ((rd_T38 l1 x9_2).f2))).setCell ⟨gb250,3,none⟩ (.slice A249_3 ((rd_T38 l1 x9_2).f3).length c249_3)).setCell ⟨gb250,4,none⟩ (.int .i64 ((rd_T38 l1 x9_2).f4))).heap[gb250]? = some (.cells #[.int .i64 ((rd_T38 l1 x9_2).f0),.int .i64 ((rd_T38 l1 x9_2).f1),.int .i64 ((rd_T38 l1 x9_2).f2),.slice A249_3 ((rd_T38 l1 x9_2).f3).length c249_3,.int .i64 ((rd_T38 l1 x9_2).f4)] 38 (0,0))) := ⟨by (with_reducible repeat (first|refine blk_drewN ?_ _|refine blk_drew ?_|refine blk_alloc ?_ _));refine blk_put (cs := #[.int .i64 ((rd_T38 l1 x9_2).f0),.int .i64 ((rd_T38 l1 x9_2).f1),.int .i64 ((rd_T38 l1 x9_2).f2),.slice A249_3 ((rd_T38 l1 x9_2).f3).length c249_3,.int .i64 0]) ?_ 4 _ rfl;(with_reducible repeat (first|refine blk_drewN ?_ _|refine blk_drew ?_|refine blk_alloc ?_ _));refine blk_put (cs := #[.int .i64 ((rd_T38 l1 x9_2).f0),.int .i64 ((rd_T38 l1 x9_2).f1),.int .i64 ((rd_T38 l1 x9_2).f2),.slice none 0 0,.int .i64 0]) ?_ 3 _ rfl;(with_reducible repeat (first|refine blk_drewN ?_ _|refine blk_drew ?_|refine blk_alloc ?_ _));refine blk_put (cs := #[.int .i64 ((rd_T38 l1 x9_2).f0),.int .i64 ((rd_T38 l1 x9_2).f1),.int .i64 0,.slice none 0 0,.int .i64 0]) ?_ 2 _ rfl;(with_reducible repeat (first|refine blk_drewN ?_ _|refine blk_drew ?_|refine blk_alloc ?_ _));refine blk_put (cs := #[.int .i64 ((rd_T38 l1 x9_2).f0),.int .i64 0,.int .i64 0,.slice none 0 0,.int .i64 0]) ?_ 1 _ rfl;(with_reducible repeat (first|refine blk_drewN ?_ _|refine blk_drew ?_|refine blk_alloc ?_ _));refine blk_put (cs := #[.int .i64 0,.int .i64 0,.int .i64 0,.slice none 0 0,.int .i64 0]) ?_ 0 _ rfl;(with_reducible repeat (first|refine blk_drewN ?_ _|refine blk_drew ?_|refine blk_alloc ?_ _));exact BK250.out⟩
         have n3_ : Aside0 (Below w.heap.size w (((((w38.setCell ⟨gb250,0,none⟩ (.int .i64 ((rd_T38 l1 x9_2).f0))).setCell ⟨gb250,1,none⟩ (.int .i64 ((rd_T38 l1 x9_2).f1))).setCell ⟨gb250,2,none⟩ (.int .i64 ((rd_T38 l1 x9_2).f2))).setCell ⟨gb250,3,none⟩ (.slice A249_3 ((rd_T38 l1 x9_2).f3).length c249_3)).setCell ⟨gb250,4,none⟩ (.int .i64 ((rd_T38 l1 x9_2).f4)))) := ⟨by repeat (first|(with_reducible first|exact HB.out|apply below_alloc|apply pw_below_drewN|apply below_drew1|refine below_set ?_ GE250.out)|exact HB.out)⟩
         (try clear HO_7)
         (try clear HO_8)
         (try clear BK250)
         (try clear HB)
         (try simp only [IntKind.wrap_u8, IntKind.wrap_u32])
         generalize (((((w38.setCell ⟨gb250,0,none⟩ (.int .i64 ((rd_T38 l1 x9_2).f0))).setCell ⟨gb250,1,none⟩ (.int .i64 ((rd_T38 l1 x9_2).f1))).setCell ⟨gb250,2,none⟩ (.int .i64 ((rd_T38 l1 x9_2).f2))).setCell ⟨gb250,3,none⟩ (.slice A249_3 ((rd_T38 l1 x9_2).f3).length c249_3)).setCell ⟨gb250,4,none⟩ (.int .i64 ((rd_T38 l1 x9_2).f4))) = w40 at n0_ n1_ n2_ n3_ ⊢
         have HO_7 := n0_
         have HO_8 := n1_
         have BK250 := n2_
         have HB := n3_
         clear n0_ n1_ n2_ n3_
         (try (rw [drewN_self w40];generalize hq_ : World.drewN w40 _ = w40;have n0_ : Aside0 (Kd.S (Kd.slice 5 (Kd.int .u8)) 36 w40 w.heap.size (fun k_ => some k_ ≠ (u8 : Value).ownBlock) u7 x7_2) := ⟨by rw [← hq_];exact (by (with_reducible repeat (first|apply Kd.S_alloc|apply Kd.S_drewN|apply Kd.S_drew));exact HO_7.out)⟩;have n1_ : Aside0 (Kd.S (Kd.slice 5 (Kd.int .u8)) 36 w40 w.heap.size (fun k_ => some k_ ≠ (u7 : Value).ownBlock) u8 x8_2) := ⟨by rw [← hq_];exact (by (with_reducible repeat (first|apply Kd.S_alloc|apply Kd.S_drewN|apply Kd.S_drew));exact HO_8.out)⟩;have n2_ : Aside0 (w40.heap[gb250]? = some (.cells #[.int .i64 ((rd_T38 l1 x9_2).f0),.int .i64 ((rd_T38 l1 x9_2).f1),.int .i64 ((rd_T38 l1 x9_2).f2),.slice A249_3 ((rd_T38 l1 x9_2).f3).length c249_3,.int .i64 ((rd_T38 l1 x9_2).f4)] 38 (0,0))) := ⟨by rw [← hq_];exact (by (with_reducible repeat (first|refine blk_drewN ?_ _|refine blk_drew ?_|refine blk_alloc ?_ _));exact BK250.out)⟩;have n3_ : Aside0 (Below w.heap.size w w40) := ⟨by rw [← hq_];exact (by repeat (first|(with_reducible first|exact HB.out|apply below_alloc|apply pw_below_drewN|apply below_drew1|refine below_set ?_ GE250.out)|exact HB.out))⟩;clear HO_7 HO_8 BK250 HB hq_;have HO_7 := n0_;have HO_8 := n1_;have BK250 := n2_;have HB := n3_;clear n0_ n1_ n2_ n3_))
         have n0_ := Aside0.mk (Kd.S_drew HO_7.out)
         have n1_ := Aside0.mk (Kd.S_drew HO_8.out)
         have n2_ := Aside0.mk (blk_drew BK250.out)
         have n3_ := Aside0.mk (below_drew1 HB.out)
         clear HO_7
         clear HO_8
         clear BK250
         clear HB
         have HO_7 := n0_
         have HO_8 := n1_
         have BK250 := n2_
         have HB := n3_
         clear n0_ n1_ n2_ n3_
         refine start_ (n := 15) (S := fun w' => w'.cell? ⟨gb250,0,none⟩ = some (.int .i64 ((rd_T38 l1 x9_2).f0)) ∧ w'.cell? ⟨gb250,1,none⟩ = some (.int .i64 ((rd_T38 l1 x9_2).f1)) ∧ w'.cell? ⟨gb250,2,none⟩ = some (.int .i64 ((rd_T38 l1 x9_2).f2)) ∧ w'.cell? ⟨gb250,3,none⟩ = some (.slice A249_3 ((rd_T38 l1 x9_2).f3).length c249_3) ∧ w'.cell? ⟨gb250,4,none⟩ = some (.int .i64 ((rd_T38 l1 x9_2).f4))) (ds := []) #[false,false,false,false,false,false,false,false,false,false,false,false,false,false,false] (by kernel_rfl) rfl rfl ⟨(blk_cell BK250.out 0).trans rfl,(blk_cell BK250.out 1).trans rfl,(blk_cell BK250.out 2).trans rfl,(blk_cell BK250.out 3).trans rfl,(blk_cell BK250.out 4).trans rfl⟩ (fun hHeld => ?_);refine with_tabW strakeref15_Build.tab8 strakeref15_Build.bits8 (fun HT_ HW_ => ?_)
         generalize w40.drew = w41 at HO_7 HO_8 BK250 HB hHeld ⊢
         refine pure_ (i := 0) (N := some 41) (v := ?_) (a' := ?_) #[true,false,false,false,false,false,false,false,false,false,false,false,false,false,false] rfl rfl (any_of HT_.out (by kernel_rfl)) (fun _ _ _ h => h) (Or.inl ⟨by rfl,?_⟩) ?_ ?_
         rotate_left
         ·intro w'
          go_simp
          with_reducible rfl
         rotate_left
         ·simp only [Act.put, List.setIfInBounds_toArray, List.set_cons_zero, List.set_cons_succ, i64_w, i32_w]
          rfl
         refine pure_ (i := 2) (N := some 43) (v := ?_) (a' := ?_) #[true,false,true,false,false,false,false,false,false,false,false,false,false,false,false] rfl rfl (any_of HT_.out (by kernel_rfl)) (fun _ _ _ h => h) (Or.inl ⟨by rfl,?_⟩) ?_ ?_
         rotate_left
         ·intro w'
          go_simp
          with_reducible rfl
         rotate_left
         ·simp only [Act.put, List.setIfInBounds_toArray, List.set_cons_zero, List.set_cons_succ, i64_w, i32_w]
          rfl
         refine pure_ (i := 4) (N := some 45) (v := ?_) (a' := ?_) #[true,false,true,false,true,false,false,false,false,false,false,false,false,false,false] rfl rfl (any_of HT_.out (by kernel_rfl)) (fun _ _ _ h => h) (Or.inl ⟨by rfl,?_⟩) ?_ ?_
         rotate_left
         ·intro w'
          go_simp
          with_reducible rfl
         rotate_left
         ·simp only [Act.put, List.setIfInBounds_toArray, List.set_cons_zero, List.set_cons_succ, i64_w, i32_w]
          rfl
         refine take_ (i := 1) (N := some 42) (v := ?_) (a' := ?_) #[true,true,true,false,true,false,false,false,false,false,false,false,false,false,false] rfl rfl (take_ofW HT_.out HW_.out (by kernel_rfl)) (fun _ _ _ h => h) (Or.inl ⟨by rfl,?_⟩) hHeld ?_ ?_
         rotate_left
         ·rintro w' ⟨s0, s1, s2, s3, s4⟩
          go_simp
          with_reducible rfl
         rotate_left
         ·simp only [Act.put, List.setIfInBounds_toArray, List.set_cons_zero, List.set_cons_succ, i64_w, i32_w]
          rfl
         refine take_ (i := 3) (N := some 44) (v := ?_) (a' := ?_) #[true,true,true,true,true,false,false,false,false,false,false,false,false,false,false] rfl rfl (take_ofW HT_.out HW_.out (by kernel_rfl)) (fun _ _ _ h => h) (Or.inl ⟨by rfl,?_⟩) hHeld ?_ ?_
         rotate_left
         ·rintro w' ⟨s0, s1, s2, s3, s4⟩
          go_simp
          with_reducible rfl
         rotate_left
         ·simp only [Act.put, List.setIfInBounds_toArray, List.set_cons_zero, List.set_cons_succ, i64_w, i32_w]
          rfl
         refine take_ (i := 5) (N := some 46) (v := ?_) (a' := ?_) #[true,true,true,true,true,true,false,false,false,false,false,false,false,false,false] rfl rfl (take_ofW HT_.out HW_.out (by kernel_rfl)) (fun _ _ _ h => h) (Or.inl ⟨by rfl,?_⟩) hHeld ?_ ?_
         rotate_left
         ·rintro w' ⟨s0, s1, s2, s3, s4⟩
          go_simp
          with_reducible rfl
         rotate_left
         ·simp only [Act.put, List.setIfInBounds_toArray, List.set_cons_zero, List.set_cons_succ, i64_w, i32_w]
          rfl
         refine pure_ (i := 6) (N := some 47) (v := ?_) (a' := ?_) #[true,true,true,true,true,true,true,false,false,false,false,false,false,false,false] rfl rfl (any_of HT_.out (by kernel_rfl)) (fun _ _ _ h => h) (Or.inl ⟨by rfl,?_⟩) ?_ ?_
         rotate_left
         ·intro w'
          go_simp
          with_reducible rfl
         rotate_left
         ·simp only [Act.put, List.setIfInBounds_toArray, List.set_cons_zero, List.set_cons_succ, i64_w, i32_w]
          rfl
         refine take_ (i := 7) (N := some 48) (v := ?_) (a' := ?_) #[true,true,true,true,true,true,true,true,false,false,false,false,false,false,false] rfl rfl (take_ofW HT_.out HW_.out (by kernel_rfl)) (fun _ _ _ h => h) (Or.inl ⟨by rfl,?_⟩) hHeld ?_ ?_
         rotate_left
         ·rintro w' ⟨s0, s1, s2, s3, s4⟩
          go_simp
          with_reducible rfl
         rotate_left
         ·simp only [Act.put, List.setIfInBounds_toArray, List.set_cons_zero, List.set_cons_succ, i64_w, i32_w]
          rfl
         refine one_ (i := 8) (N := some 49) #[true,true,true,true,true,true,true,true,true,false,false,false,false,false,false] rfl rfl (one_of HT_.out (by kernel_rfl)) (by decide) (fun K hK => ?_)
         refine goes_ Try.func26 (by kernel_rfl) rfl #[.agg #[.int .i64 ((rd_T38 l1 x9_2).f0),.int .i64 ((rd_T38 l1 x9_2).f1),.int .i64 ((rd_T38 l1 x9_2).f2),.slice A249_3 ((rd_T38 l1 x9_2).f3).length c249_3,.int .i64 ((rd_T38 l1 x9_2).f4)]] (by rfl) rfl rfl (by (try simp only [List.map_toArray,List.map_cons,List.map_nil]);first|done|rfl|(simp only [List.length_drop,List.length_take];rfl)) ?_
         with_reducible refine (strakeref15_Sector.calls ((rd_T38 l1 x9_2).f0) ((rd_T38 l1 x9_2).f1) ((rd_T38 l1 x9_2).f2) _ _ ((rd_T38 l1 x9_2).f3) ((rd_T38 l1 x9_2).f4) t251 _ ?side1 ?side2 A10.out).mono ?_
         (case side1 => repeat (first|exact (Kd.C_below HR249_3.out HB.out)|(with_reducible refine Kd.C_alloc ?_ _)|(with_reducible refine Kd.C_drewN ?_ _)|(with_reducible refine Kd.C_drew ?_)))
         (case side2 => exact HC249_3.out)
         rintro e w42 ⟨v252, rfl, ho0, hb⟩
         refine ⟨_, rfl, ?_⟩
         have n0_ := Aside0.mk (Kd.S_elder' (by (with_reducible repeat (first|apply Kd.S_alloc|apply Kd.S_drewN|apply Kd.S_drew));exact HO_7.out) (Kd.R_base ho0) hb)
         have n1_ := Aside0.mk (Kd.S_elder' (by (with_reducible repeat (first|apply Kd.S_alloc|apply Kd.S_drewN|apply Kd.S_drew));exact HO_8.out) (Kd.R_base ho0) hb)
         have n2_ := Aside0.mk (Kd.R_lower ho0 (below_size (by repeat (first|(with_reducible first|exact HB.out|apply below_alloc|apply pw_below_drewN|apply below_drew1|refine below_set ?_ GE250.out)|exact HB.out))))
         have n3_ := Aside0.mk (blk_below (g := gb250) (o := .cells #[.int .i64 ((rd_T38 l1 x9_2).f0),.int .i64 ((rd_T38 l1 x9_2).f1),.int .i64 ((rd_T38 l1 x9_2).f2),.slice A249_3 ((rd_T38 l1 x9_2).f3).length c249_3,.int .i64 ((rd_T38 l1 x9_2).f4)] 38 (0,0)) (by (with_reducible repeat (first|refine blk_drewN ?_ _|refine blk_drew ?_|refine blk_alloc ?_ _));exact BK250.out) hb)
         have n4_ := Aside0.mk (below_step (by repeat (first|(with_reducible first|exact HB.out|apply below_alloc|apply pw_below_drewN|apply below_drew1|refine below_set ?_ GE250.out)|exact HB.out)) hb)
         clear HO_7
         clear HO_8
         clear BK250
         clear HB
         have HO_7 := n0_
         have HO_8 := n1_
         have HO253 := n2_
         have BK250 := n3_
         have HB := n4_
         clear n0_ n1_ n2_ n3_ n4_
         (try clear hb)
         (try clear hb2)
         (try clear hk)
         (try clear hi)
         (try clear ho0)
         obtain ⟨Ao43, co43, eo43⟩ := Kd.R_slice HO253.out
         (first|subst eo43|(injection eo43 with f1_ f2_ f3_;have f4_ := f1_.symm;have f5_ := f3_.symm;clear f1_ f2_ f3_;subst f4_;subst f5_))
         refine hK.out _ _ ⟨(blk_cell BK250.out 0).trans rfl,(blk_cell BK250.out 1).trans rfl,(blk_cell BK250.out 2).trans rfl,(blk_cell BK250.out 3).trans rfl,(blk_cell BK250.out 4).trans rfl⟩ (fun hHeld => ?_)
         clear hK K
         refine norm_ (a' := ?_) ?_ ?_
         rotate_left
         ·show Act.put _ (some 49) _ = _
          simp only [Act.put, List.setIfInBounds_toArray, List.set_cons_zero, List.set_cons_succ, i64_w, i32_w]
          rfl
         refine one_ (i := 9) (N := some 50) #[true,true,true,true,true,true,true,true,true,true,false,false,false,false,false] rfl rfl (one_of HT_.out (by kernel_rfl)) (by decide) (fun K hK => ?_)
         refine goes_ Try.func25 (by kernel_rfl) rfl #[.agg #[.int .i64 ((rd_T38 l1 x9_2).f0),.int .i64 ((rd_T38 l1 x9_2).f1),.int .i64 ((rd_T38 l1 x9_2).f2)],.slice Ao43 t251.length co43] (by rfl) rfl rfl (by (try simp only [List.map_toArray,List.map_cons,List.map_nil]);first|done|rfl|(simp only [List.length_drop,List.length_take];rfl)) ?_
         with_reducible refine (strakeref05_Pack.calls k2 ((rd_T38 l1 x9_2).f0) ((rd_T38 l1 x9_2).f1) ((rd_T38 l1 x9_2).f2) _ _ t251 t254 t257 _ ?side1 ?side2 A11.out).mono ?_
         (case side1 => repeat (first|exact (Kd.R_reads' HO253.out).2.2|(with_reducible refine Kd.C_alloc ?_ _)|(with_reducible refine Kd.C_drewN ?_ _)|(with_reducible refine Kd.C_drew ?_)))
         (case side2 => exact (Kd.R_reads' HO253.out).2.1)
         rintro e w44 ⟨v255, rfl, ho0, hb⟩
         refine ⟨_, rfl, ?_⟩
         have n0_ := Aside0.mk (Kd.S_elder' (by (with_reducible repeat (first|apply Kd.S_alloc|apply Kd.S_drewN|apply Kd.S_drew));exact HO_7.out) (Kd.R_base ho0) hb)
         have n1_ := Aside0.mk (Kd.S_elder' (by (with_reducible repeat (first|apply Kd.S_alloc|apply Kd.S_drewN|apply Kd.S_drew));exact HO_8.out) (Kd.R_base ho0) hb)
         have n2_ := Aside0.mk (Kd.R_elder' (by (with_reducible repeat (first|apply Kd.R_alloc|apply Kd.R_drewN|apply Kd.R_drew));exact HO253.out) (Kd.R_base ho0) hb)
         have n3_ := Aside0.mk (Kd.R_lower (Kd.R_new' ho0 (Kd.R_lt (by (with_reducible repeat (first|apply Kd.R_alloc|apply Kd.R_drewN|apply Kd.R_drew));exact HO253.out))) (below_size (by repeat (first|(with_reducible first|exact HB.out|apply below_alloc|apply pw_below_drewN|apply below_drew1|refine below_set ?_ GE250.out)|exact HB.out))))
         have n4_ := Aside0.mk (blk_below (g := gb250) (o := .cells #[.int .i64 ((rd_T38 l1 x9_2).f0),.int .i64 ((rd_T38 l1 x9_2).f1),.int .i64 ((rd_T38 l1 x9_2).f2),.slice A249_3 ((rd_T38 l1 x9_2).f3).length c249_3,.int .i64 ((rd_T38 l1 x9_2).f4)] 38 (0,0)) (by (with_reducible repeat (first|refine blk_drewN ?_ _|refine blk_drew ?_|refine blk_alloc ?_ _));exact BK250.out) hb)
         have n5_ := Aside0.mk (below_step (by repeat (first|(with_reducible first|exact HB.out|apply below_alloc|apply pw_below_drewN|apply below_drew1|refine below_set ?_ GE250.out)|exact HB.out)) hb)
         clear HO_7
         clear HO_8
         clear HO253
         clear BK250
         clear HB
         have HO_7 := n0_
         have HO_8 := n1_
         have HO253 := n2_
         have HO256 := n3_
         have BK250 := n4_
         have HB := n5_
         clear n0_ n1_ n2_ n3_ n4_ n5_
         (try clear hb)
         (try clear hb2)
         (try clear hk)
         (try clear hi)
         (try clear ho0)
         refine hK.out _ _ ⟨(blk_cell BK250.out 0).trans rfl,(blk_cell BK250.out 1).trans rfl,(blk_cell BK250.out 2).trans rfl,(blk_cell BK250.out 3).trans rfl,(blk_cell BK250.out 4).trans rfl⟩ (fun hHeld => ?_)
         clear hK K
         refine norm_ (a' := ?_) ?_ ?_
         rotate_left
         ·show Act.put _ (some 50) _ = _
          simp only [Act.put, List.setIfInBounds_toArray, List.set_cons_zero, List.set_cons_succ, i64_w, i32_w]
          rfl
         refine pure_ (i := 10) (N := some 40) (v := ?_) (a' := ?_) #[true,true,true,true,true,true,true,true,true,true,true,false,false,false,false] rfl rfl (any_of HT_.out (by kernel_rfl)) (fun _ _ _ h => h) (Or.inl ⟨by rfl,?_⟩) ?_ ?_
         rotate_left
         ·intro w'
          go_simp
          with_reducible rfl
         rotate_left
         ·simp only [Act.put, List.setIfInBounds_toArray, List.set_cons_zero, List.set_cons_succ, i64_w, i32_w]
          rfl
         refine pure_ (i := 11) (N := some 51) (v := ?_) (a' := ?_) #[true,true,true,true,true,true,true,true,true,true,true,true,false,false,false] rfl rfl (any_of HT_.out (by kernel_rfl)) (fun _ _ _ h => h) (Or.inl ⟨by rfl,?_⟩) ?_ ?_
         rotate_left
         ·intro w'
          go_simp
          with_reducible rfl
         rotate_left
         ·simp only [Act.put, List.setIfInBounds_toArray, List.set_cons_zero, List.set_cons_succ, i64_w, i32_w]
          rfl
         refine pure_ (i := 12) (N := some 52) (v := ?_) (a' := ?_) #[true,true,true,true,true,true,true,true,true,true,true,true,true,false,false] rfl rfl (any_of HT_.out (by kernel_rfl)) (fun _ _ _ h => h) (Or.inl ⟨by rfl,?_⟩) ?_ ?_
         rotate_left
         ·intro w'
          go_simp
          with_reducible rfl
         rotate_left
         ·simp only [Act.put, List.setIfInBounds_toArray, List.set_cons_zero, List.set_cons_succ, i64_w, i32_w]
          rfl
         refine pure_ (i := 13) (N := some 11) (v := ?_) (a' := ?_) #[true,true,true,true,true,true,true,true,true,true,true,true,true,true,false] rfl rfl (any_of HT_.out (by kernel_rfl)) (fun _ _ _ h => h) (Or.inl ⟨by rfl,?_⟩) ?_ ?_
         rotate_left
         ·intro w'
          go_simp
          with_reducible rfl
         rotate_left
         ·simp only [Act.put, List.setIfInBounds_toArray, List.set_cons_zero, List.set_cons_succ, i64_w, i32_w]
          rfl
         refine pure_ (i := 14) (N := some 12) (v := ?_) (a' := ?_) #[true,true,true,true,true,true,true,true,true,true,true,true,true,true,true] rfl rfl (any_of HT_.out (by kernel_rfl)) (fun _ _ _ h => h) (Or.inl ⟨by rfl,?_⟩) ?_ ?_
         rotate_left
         ·intro w'
          go_simp
          with_reducible rfl
         rotate_left
         ·simp only [Act.put, List.setIfInBounds_toArray, List.set_cons_zero, List.set_cons_succ, i64_w, i32_w]
          rfl
         refine done_ (done_of HT_.out (by kernel_rfl)) ?_
         try go_wp2
         go_ret3
         exact ⟨_,_,by first|rfl|(simp [errW_none,errW_some] <;> rfl)|(simp [*,errW_none,errW_some] <;> rfl),by first|exact Kd.S_nil _ _ _ _ _|exact Kd.N_nil _ _ _ _ _|exact Kd.V_nil _ _ _ _ _|exact Kd.Q_nil _ _ _ _ _|exact Kd.R_nil _ _ _ _ _,by first|exact Kd.S_nil _ _ _ _ _|exact Kd.N_nil _ _ _ _ _|exact Kd.V_nil _ _ _ _ _|exact Kd.Q_nil _ _ _ _ _|exact Kd.R_nil _ _ _ _ _,by repeat (first|(with_reducible first|exact HB.out|apply below_alloc|apply pw_below_drewN|apply below_drew1|refine below_set ?_ GE250.out)|exact HB.out)⟩
       ·rw [if_neg c9] at H
        exact absurd H (by simp)
      ·rw [if_neg c8] at H
       have c8b0 : decide (x9_2 < (l1.length : Int)) = false := decide_eq_false c8
       clear c8
       replace H := Option.bind_eq_some_iff.mp H
       obtain ⟨⟨t243, t244⟩, A450, H⟩ := H
       replace H : (some (t243, t244, 0)) = some (r1, r2, r3) := H
       have A45 := Aside0.mk A450
       clear A450
       simp only [Option.some.injEq, Prod.mk.injEq] at H
       obtain ⟨rfl, rfl, rfl⟩ := H
       obtain ⟨Ao46, co46, eo46⟩ := Kd.S_slice HO_7.out
       subst eo46
       obtain ⟨Ao47, co47, eo47⟩ := Kd.S_slice HO_8.out
       subst eo47
       go_wp2_with (first|((with_reducible refine gate_callee (f := 27) rfl ?_);refine goesL_ (some 73) rfl rfl Try.func27 (by kernel_rfl) rfl #[.int .i64 a0,.slice Ao46 x7_2.length co46,.slice Ao47 x8_2.length co47] rfl (by (try simp only [List.map_toArray,List.map_cons,List.map_nil]);first|done|rfl|(simp only [List.length_drop,List.length_take];rfl)) ?_;(refine (strakeref15_filled.calls k2 a0 (.slice Ao46 x7_2.length co46) (.slice Ao47 x8_2.length co47) x7_2 x8_2 t243 t244 w _ ?side1 ?side2 ?side3 A45.out).mono ?_);(case side1 => exact (by repeat (first|(with_reducible first|exact HB.out|apply below_alloc|apply pw_below_drewN|apply below_drew1)|exact HB.out)));(case side2 => exact Kd.S_mono (by (with_reducible repeat (first|apply Kd.S_alloc|apply Kd.S_drewN|apply Kd.S_drew));exact HO_7.out) (fun k_ hk_ => hk_));(case side3 => exact Kd.S_mono (by (with_reducible repeat (first|apply Kd.S_alloc|apply Kd.S_drewN|apply Kd.S_drew));exact HO_8.out) (fun k_ hk_ => hk_));rintro e w48 ⟨v245,v247,rfl,ho0,ho1,hb⟩;refine ⟨_,rfl,?_⟩;have n0_ := Aside0.mk (ho0);have n1_ := Aside0.mk (ho1);have n2_ := Aside0.mk (hb);clear HB;have HO246 := n0_;have HO248 := n1_;have HB := n2_;clear n0_ n1_ n2_;(try clear hb);(try clear ho0);(try clear ho1)))
       go_ret3
       exact ⟨_,_,by first|rfl|(simp [errW_none,errW_some] <;> rfl)|(simp [*,errW_none,errW_some] <;> rfl),by (with_reducible repeat (first|apply Kd.S_alloc|apply Kd.S_drewN|apply Kd.S_drew));exact HO246.out,by (with_reducible repeat (first|apply Kd.S_alloc|apply Kd.S_drewN|apply Kd.S_drew));exact HO248.out,by repeat (first|(with_reducible first|exact HB.out|apply below_alloc|apply pw_below_drewN|apply below_drew1)|exact HB.out)⟩


/-! ### strakeref15_SameBytes: function 13 -/
def strakeref15_SameBytes.l0 : Nat → List (List Int) → List (List Int) → Int → Option (Bool)
 | 0, _, _, _ => none
 | k + 1,x0,x1,x5 => if x5 < (x0.length : Int) then (if 0 ≤ x5 then (if x5 < (x1.length : Int) then (if (strOfNums (rd_L2 x0 x5)).toList = (strOfNums (rd_L2 x1 x5)).toList then (strakeref15_SameBytes.l0 k x0 x1 (wrap64 (x5 + 1))) else (some false)) else (none)) else (none)) else (some true)
def strakeref15_SameBytes.f (k : Nat) (l0 : List (List Int)) (l1 : List (List Int)) : Option (Bool) := if (l0.length : Int) = (l1.length : Int) then (strakeref15_SameBytes.l0 k l0 l1 0) else (some false)
theorem strakeref15_SameBytes.mono_l : ∀ k,(∀ y0 y1 y2,LeO (strakeref15_SameBytes.l0 k y0 y1 y2) (strakeref15_SameBytes.l0 (k + 1) y0 y1 y2))
 | 0 => fun _ _ _ r h => by simp [strakeref15_SameBytes.l0] at h
 | k + 1 => by
  have ih0 := strakeref15_SameBytes.mono_l k
  ·intro y0 y1 y2
   unfold strakeref15_SameBytes.l0
   repeat' first
   | (with_reducible exact ih0 _ _ _)
   | (with_reducible exact LeO.refl _)
   | (with_reducible exact LeO.none _)
   | (with_reducible refine LeO.ite ?_ ?_)
   | (with_reducible refine LeO.bind ?_ (fun _ => ?_))
   | exact ih0 _ _ _
   | exact LeO.none _
   | refine LeO.ite ?_ ?_
   | refine LeO.bind ?_ (fun _ => ?_)
theorem strakeref15_SameBytes.mono : ∀ a0 a1 k,LeO (strakeref15_SameBytes.f k a0 a1) (strakeref15_SameBytes.f (k + 1) a0 a1) := by
 intro a0 a1 k
 have ih0 := strakeref15_SameBytes.mono_l k
 unfold strakeref15_SameBytes.f
 repeat' first
   | (with_reducible exact ih0 _ _ _)
   | (with_reducible exact LeO.refl _)
   | (with_reducible exact LeO.none _)
   | (with_reducible refine LeO.ite ?_ ?_)
   | (with_reducible refine LeO.bind ?_ (fun _ => ?_))
   | exact ih0 _ _ _
   | exact LeO.none _
   | refine LeO.ite ?_ ?_
   | refine LeO.bind ?_ (fun _ => ?_)
set_option maxHeartbeats 8000000 in
set_option maxRecDepth 100000 in
theorem strakeref15_SameBytes.calls (k : Nat) (A0 : Option Addr) (c0 : Nat) (l0 : List (List Int)) (A1 : Option Addr) (c1 : Nat) (l1 : List (List Int)) (r : Bool) (w : World) (hr0 : Kd.C (Kd.slice 5 (Kd.int .u8)) w A0 l0.length l0) (hc0 : l0.length ≤ c0) (hr1 : Kd.C (Kd.slice 5 (Kd.int .u8)) w A1 l1.length l1) (hc1 : l1.length ≤ c1) (h : strakeref15_SameBytes.f k l0 l1 = some r) :
  Calls Try.prog 13 #[.slice A0 l0.length c0,.slice A1 l1.length c1] w fun e w' => e = .returned (.bool r) ∧ Drawn0 w w' := by
 have HR0 := Aside0.mk hr0
 have HC0 := Aside0.mk hc0
 clear hr0 hc0
 have HR1 := Aside0.mk hr1
 have HC1 := Aside0.mk hc1
 clear hr1 hc1
 have H : (if (l0.length : Int) = (l1.length : Int) then (strakeref15_SameBytes.l0 k l0 l1 0) else (some false)) = some r := h
 clear h
 by_cases c3 : (l0.length : Int) = (l1.length : Int)
 ·rw [if_pos c3] at H
  have c3b0 : ((l0.length : Int) == (l1.length : Int)) = true := beq_iff_eq.mpr c3
  have c3b1 : ((l0.length : Int) != (l1.length : Int)) = false := bne_eq_false_iff_eq.mpr c3
  have c3b2 : (l0.length == l1.length) = true := by first | simpa using c3 | (simp at c3 ⊢; omega)
  clear c3
  have H' := Aside0.mk H
  clear H
  go_enter Try.func13, Try.ntmps13
  go_wp2
  repeat (go_quiet (fail); try go_wp2)
  go_loopg [5] k (fun kq v5 w' => ∃ (x5_1 : Int),v5 = .int .i64 x5_1 ∧ Aside0 (strakeref15_SameBytes.l0 kq l0 l1 x5_1 = some r) ∧ Aside0 (kq ≤ k) ∧ Drawn0 w w')
  case atStart => exact ⟨(0),(by first|rfl|(simp;done)|(simp [*];done)),H',⟨Nat.le_refl _⟩,by repeat (first|exact Drawn0.refl _|apply Drawn0.step)⟩
  case round =>
   clear H'
   try clear c1
   try clear p2
   try clear c3
   try clear c3b0
   try clear c3b1
   try clear c3b2
   obtain ⟨x5_1, rfl, HA, HK1, ⟨m1, rfl⟩⟩ := hrel
   cases gk with
   | zero => exact absurd HA.out (by simp [strakeref15_SameBytes.l0])
   | succ k1 =>
    have H := HA.out
    clear HA
    simp only [strakeref15_SameBytes.l0] at H
    by_cases c4 : x5_1 < (l0.length : Int)
    ·rw [if_pos c4] at H
     have c4b0 : decide (x5_1 < (l0.length : Int)) = true := decide_eq_true c4
     clear c4
     by_cases c5 : 0 ≤ x5_1
     ·rw [if_pos c5] at H
      have c5b0 : decide (0 ≤ x5_1) = true := decide_eq_true c5
      clear c5
      by_cases c6 : x5_1 < (l1.length : Int)
      ·rw [if_pos c6] at H
       have c6b0 : decide (x5_1 < (l1.length : Int)) = true := decide_eq_true c6
       clear c6
       by_cases c7 : (strOfNums (rd_L2 l0 x5_1)).toList = (strOfNums (rd_L2 l1 x5_1)).toList
       ·rw [if_pos c7] at H
        have c7b0 : ((strOfNums (rd_L2 l0 x5_1)).toList == (strOfNums (rd_L2 l1 x5_1)).toList) = true := beq_iff_eq.mpr c7
        have c7b1 : ((strOfNums (rd_L2 l0 x5_1)).toList != (strOfNums (rd_L2 l1 x5_1)).toList) = false := bne_eq_false_iff_eq.mpr c7
        clear c7
        have H' := Aside0.mk H
        clear H
        have p267 : 0 ≤ (x5_1 : Int) := of_decide_eq_true (by first | (with_reducible assumption) | assumption)
        have q267 : x5_1 < (l0.length : Int) := of_decide_eq_true (by first | (with_reducible assumption) | assumption)
        obtain ⟨ad267, A267_0, c267_0, e267, hx267_0, hl267_0, hi267_0⟩ := at_L2 HR0.out x5_1 p267 q267
        cases e267
        have HR267_0 := Aside0.mk hi267_0
        have HC267_0 := Aside0.mk hl267_0
        clear hi267_0 hl267_0
        replace p267 := eq_true p267
        replace q267 := eq_true q267
        have hcv8 := Kd.C_string (P := Try.prog) (A := A267_0) (c := c267_0) Try.underlying36 Try.underlying5 Try.underlying9 HR267_0.out
        have hcv9 := fun nq_ : Nat => Kd.C_string (P := Try.prog) (A := A267_0) (c := c267_0) Try.underlying36 Try.underlying5 Try.underlying9 (Kd.C_drewN HR267_0.out nq_)
        have p268 : 0 ≤ (x5_1 : Int) := of_decide_eq_true (by first | (with_reducible assumption) | assumption)
        have q268 : x5_1 < (l1.length : Int) := of_decide_eq_true (by first | (with_reducible assumption) | assumption)
        obtain ⟨ad268, A268_0, c268_0, e268, hx268_0, hl268_0, hi268_0⟩ := at_L2 HR1.out x5_1 p268 q268
        cases e268
        have HR268_0 := Aside0.mk hi268_0
        have HC268_0 := Aside0.mk hl268_0
        clear hi268_0 hl268_0
        replace p268 := eq_true p268
        replace q268 := eq_true q268
        have hcv10 := Kd.C_string (P := Try.prog) (A := A268_0) (c := c268_0) Try.underlying36 Try.underlying5 Try.underlying9 HR268_0.out
        have hcv11 := fun nq_ : Nat => Kd.C_string (P := Try.prog) (A := A268_0) (c := c268_0) Try.underlying36 Try.underlying5 Try.underlying9 (Kd.C_drewN HR268_0.out nq_)
        go_wp2
        repeat (go_quiet (fail); try go_wp2)
        go_roundg k1
        case measure => have := HK1.out; omega
        case rel => exact ⟨(wrap64 (x5_1 + 1)),(by first|rfl|(simp;done)|(simp [*];done)),H',⟨by have := HK1.out;omega⟩,by repeat (first|exact Drawn0.refl _|apply Drawn0.step)⟩
       ·rw [if_neg c7] at H
        have c7b0 : ((strOfNums (rd_L2 l0 x5_1)).toList == (strOfNums (rd_L2 l1 x5_1)).toList) = false := beq_eq_false_iff_ne.mpr c7
        have c7b1 : ((strOfNums (rd_L2 l0 x5_1)).toList != (strOfNums (rd_L2 l1 x5_1)).toList) = true := bne_iff_ne.mpr c7
        obtain rfl := Option.some.inj H
        have p267 : 0 ≤ (x5_1 : Int) := of_decide_eq_true (by first | (with_reducible assumption) | assumption)
        have q267 : x5_1 < (l0.length : Int) := of_decide_eq_true (by first | (with_reducible assumption) | assumption)
        obtain ⟨ad267, A267_0, c267_0, e267, hx267_0, hl267_0, hi267_0⟩ := at_L2 HR0.out x5_1 p267 q267
        cases e267
        have HR267_0 := Aside0.mk hi267_0
        have HC267_0 := Aside0.mk hl267_0
        clear hi267_0 hl267_0
        replace p267 := eq_true p267
        replace q267 := eq_true q267
        have hcv12 := Kd.C_string (P := Try.prog) (A := A267_0) (c := c267_0) Try.underlying36 Try.underlying5 Try.underlying9 HR267_0.out
        have hcv13 := fun nq_ : Nat => Kd.C_string (P := Try.prog) (A := A267_0) (c := c267_0) Try.underlying36 Try.underlying5 Try.underlying9 (Kd.C_drewN HR267_0.out nq_)
        have p268 : 0 ≤ (x5_1 : Int) := of_decide_eq_true (by first | (with_reducible assumption) | assumption)
        have q268 : x5_1 < (l1.length : Int) := of_decide_eq_true (by first | (with_reducible assumption) | assumption)
        obtain ⟨ad268, A268_0, c268_0, e268, hx268_0, hl268_0, hi268_0⟩ := at_L2 HR1.out x5_1 p268 q268
        cases e268
        have HR268_0 := Aside0.mk hi268_0
        have HC268_0 := Aside0.mk hl268_0
        clear hi268_0 hl268_0
        replace p268 := eq_true p268
        replace q268 := eq_true q268
        have hcv14 := Kd.C_string (P := Try.prog) (A := A268_0) (c := c268_0) Try.underlying36 Try.underlying5 Try.underlying9 HR268_0.out
        have hcv15 := fun nq_ : Nat => Kd.C_string (P := Try.prog) (A := A268_0) (c := c268_0) Try.underlying36 Try.underlying5 Try.underlying9 (Kd.C_drewN HR268_0.out nq_)
        go_wp2
        repeat (go_quiet (fail); try go_wp2)
        go_ret
        exact ⟨by first|rfl|(simp;done)|(simp [*];done),by repeat (first|exact Drawn0.refl _|apply Drawn0.step)⟩
      ·rw [if_neg c6] at H
       exact absurd H (by simp)
     ·rw [if_neg c5] at H
      exact absurd H (by simp)
    ·rw [if_neg c4] at H
     have c4b0 : decide (x5_1 < (l0.length : Int)) = false := decide_eq_false c4
     clear c4
     obtain rfl := Option.some.inj H
     go_wp2
     repeat (go_quiet (fail); try go_wp2)
     go_ret
     exact ⟨by first|rfl|(simp;done)|(simp [*];done),by repeat (first|exact Drawn0.refl _|apply Drawn0.step)⟩
 ·rw [if_neg c3] at H
  have c3b0 : ((l0.length : Int) == (l1.length : Int)) = false := beq_eq_false_iff_ne.mpr c3
  have c3b1 : ((l0.length : Int) != (l1.length : Int)) = true := bne_iff_ne.mpr c3
  have c3b2 : (l0.length == l1.length) = false := by first | simpa using c3 | (simp at c3 ⊢; omega)
  obtain rfl := Option.some.inj H
  go_enter Try.func13, Try.ntmps13
  go_wp2
  repeat (go_quiet (fail); try go_wp2)
  go_ret
  exact ⟨by first | rfl | (simp; done) | (simp [*]; done), by repeat (first | exact Drawn0.refl _ | apply Drawn0.step)⟩


/-! ### strakelaw15_PageBuilds: function 3 -/
def strakelaw15_PageBuilds.f (k : Nat) (a0 : Int) (l1 : List (S38)) : Option (Bool) := (strakelaw15_awake.f k).bind fun t269 => ((strakelaw15_slim.f k l1).bind fun t270 => (if t270 = true then ((page_Build.f k a0 l1).bind fun bt271 => ((strakeref15_Build.f k a0 l1).bind fun bt278 => ((strakeref15_SameBytes.f k bt271.1 bt278.1).bind fun t285 => ((strakeref15_SameBytes.f k bt271.2.1 bt278.2.1).bind fun t286 => (if t269 = true then (if t285 = true then (if t286 = true then (some (bt271.2.2 == bt278.2.2)) else (some false)) else (some false)) else (some false)))))) else (some t269)))
theorem strakelaw15_PageBuilds.mono : ∀ a0 a1 k,LeO (strakelaw15_PageBuilds.f k a0 a1) (strakelaw15_PageBuilds.f (k + 1) a0 a1) := by
 intro a0 a1 k
 unfold strakelaw15_PageBuilds.f
 repeat' first
   | (with_reducible exact page_Build.mono _ _ _)
   | (with_reducible exact strakelaw15_awake.mono _)
   | (with_reducible exact strakelaw15_slim.mono _ _)
   | (with_reducible exact strakeref15_Build.mono _ _ _)
   | (with_reducible exact strakeref15_SameBytes.mono _ _ _)
   | (with_reducible exact LeO.refl _)
   | (with_reducible exact LeO.none _)
   | (with_reducible refine LeO.ite ?_ ?_)
   | (with_reducible refine LeO.bind ?_ (fun _ => ?_))
   | exact page_Build.mono _ _ _
   | exact strakelaw15_awake.mono _
   | exact strakelaw15_slim.mono _ _
   | exact strakeref15_Build.mono _ _ _
   | exact strakeref15_SameBytes.mono _ _ _
   | exact LeO.none _
   | refine LeO.ite ?_ ?_
   | refine LeO.bind ?_ (fun _ => ?_)
set_option maxHeartbeats 8000000 in
set_option maxRecDepth 100000 in
theorem strakelaw15_PageBuilds.calls (k : Nat) (a0 : Int) (A1 : Option Addr) (c1 : Nat) (l1 : List (S38)) (r : Bool) (w : World) (hr1 : Kd.C k38 w A1 l1.length l1) (hc1 : l1.length ≤ c1) (h : strakelaw15_PageBuilds.f k a0 l1 = some r) :
  Calls Try.prog 3 #[.int .i64 a0,.slice A1 l1.length c1] w fun e w' => e = .returned (.bool r) ∧ Below w.heap.size w w' := by
 have HR1 := Aside0.mk hr1
 have HC1 := Aside0.mk hc1
 clear hr1 hc1
 have HB := Aside0.mk (Below.refl w.heap.size w)
 have H : ((strakelaw15_awake.f k).bind fun t269 => ((strakelaw15_slim.f k l1).bind fun t270 => (if t270 = true then ((page_Build.f k a0 l1).bind fun bt271 => ((strakeref15_Build.f k a0 l1).bind fun bt278 => ((strakeref15_SameBytes.f k bt271.1 bt278.1).bind fun t285 => ((strakeref15_SameBytes.f k bt271.2.1 bt278.2.1).bind fun t286 => (if t269 = true then (if t285 = true then (if t286 = true then (some (bt271.2.2 == bt278.2.2)) else (some false)) else (some false)) else (some false)))))) else (some t269)))) = some r := h
 clear h
 replace H := Option.bind_eq_some_iff.mp H
 obtain ⟨t269, A30, H⟩ := H
 replace H : ((strakelaw15_slim.f k l1).bind fun t270 => (if t270 = true then ((page_Build.f k a0 l1).bind fun bt271 => ((strakeref15_Build.f k a0 l1).bind fun bt278 => ((strakeref15_SameBytes.f k bt271.1 bt278.1).bind fun t285 => ((strakeref15_SameBytes.f k bt271.2.1 bt278.2.1).bind fun t286 => (if t269 = true then (if t285 = true then (if t286 = true then (some (bt271.2.2 == bt278.2.2)) else (some false)) else (some false)) else (some false)))))) else (some t269))) = some r := H
 have A3 := Aside0.mk A30
 clear A30
 replace H := Option.bind_eq_some_iff.mp H
 obtain ⟨t270, A40, H⟩ := H
 replace H : (if t270 = true then ((page_Build.f k a0 l1).bind fun bt271 => ((strakeref15_Build.f k a0 l1).bind fun bt278 => ((strakeref15_SameBytes.f k bt271.1 bt278.1).bind fun t285 => ((strakeref15_SameBytes.f k bt271.2.1 bt278.2.1).bind fun t286 => (if t269 = true then (if t285 = true then (if t286 = true then (some (bt271.2.2 == bt278.2.2)) else (some false)) else (some false)) else (some false)))))) else (some t269)) = some r := H
 have A4 := Aside0.mk A40
 clear A40
 by_cases c5 : t270 = true
 ·subst c5
  have H1 : ((page_Build.f k a0 l1).bind fun bt271 => ((strakeref15_Build.f k a0 l1).bind fun bt278 => ((strakeref15_SameBytes.f k bt271.1 bt278.1).bind fun t285 => ((strakeref15_SameBytes.f k bt271.2.1 bt278.2.1).bind fun t286 => (if t269 = true then (if t285 = true then (if t286 = true then (some (bt271.2.2 == bt278.2.2)) else (some false)) else (some false)) else (some false)))))) = some r := by rw [if_pos rfl] at H;exact H
  clear H
  have H := H1
  clear H1
  replace H := Option.bind_eq_some_iff.mp H
  obtain ⟨⟨t271, t272, t273⟩, A60, H⟩ := H
  replace H : ((strakeref15_Build.f k a0 l1).bind fun bt278 => ((strakeref15_SameBytes.f k t271 bt278.1).bind fun t285 => ((strakeref15_SameBytes.f k t272 bt278.2.1).bind fun t286 => (if t269 = true then (if t285 = true then (if t286 = true then (some (t273 == bt278.2.2)) else (some false)) else (some false)) else (some false))))) = some r := H
  have A6 := Aside0.mk A60
  clear A60
  replace H := Option.bind_eq_some_iff.mp H
  obtain ⟨⟨t278, t279, t280⟩, A70, H⟩ := H
  replace H : ((strakeref15_SameBytes.f k t271 t278).bind fun t285 => ((strakeref15_SameBytes.f k t272 t279).bind fun t286 => (if t269 = true then (if t285 = true then (if t286 = true then (some (t273 == t280)) else (some false)) else (some false)) else (some false)))) = some r := H
  have A7 := Aside0.mk A70
  clear A70
  replace H := Option.bind_eq_some_iff.mp H
  obtain ⟨t285, A80, H⟩ := H
  replace H : ((strakeref15_SameBytes.f k t272 t279).bind fun t286 => (if t269 = true then (if t285 = true then (if t286 = true then (some (t273 == t280)) else (some false)) else (some false)) else (some false))) = some r := H
  have A8 := Aside0.mk A80
  clear A80
  replace H := Option.bind_eq_some_iff.mp H
  obtain ⟨t286, A90, H⟩ := H
  replace H : (if t269 = true then (if t285 = true then (if t286 = true then (some (t273 == t280)) else (some false)) else (some false)) else (some false)) = some r := H
  have A9 := Aside0.mk A90
  clear A90
  by_cases c10 : t269 = true
  ·subst c10
   have H1 : (if t285 = true then (if t286 = true then (some (t273 == t280)) else (some false)) else (some false)) = some r := by rw [if_pos rfl] at H;exact H
   clear H
   have H := H1
   clear H1
   by_cases c11 : t285 = true
   ·subst c11
    have H1 : (if t286 = true then (some (t273 == t280)) else (some false)) = some r := by rw [if_pos rfl] at H; exact H
    clear H
    have H := H1
    clear H1
    by_cases c12 : t286 = true
    ·subst c12
     have H1 : (some (t273 == t280)) = some r := by rw [if_pos rfl] at H; exact H
     clear H
     have H := H1
     clear H1
     obtain rfl := Option.some.inj H
     go_enter Try.func3, Try.ntmps3
     go_wp2_with (first|((with_reducible refine gate_callee (f := 9) rfl ?_);refine goesL_ (some 15) rfl rfl Try.func9 (by kernel_rfl) rfl #[] rfl (by (try simp only [List.map_toArray,List.map_cons,List.map_nil]);first|done|rfl|(simp only [List.length_drop,List.length_take];rfl)) ?_;(with_reducible refine (strakelaw15_awake.calls k  true _ A3.out).mono ?_);rintro e w13 ⟨rfl,hb⟩;refine ⟨_,rfl,?_⟩;have n0_ := Aside0.mk (below_step (by repeat (first|(with_reducible first|exact HB.out|apply below_alloc|apply pw_below_drewN|apply below_drew1)|exact HB.out)) hb);clear HB;have HB := n0_;clear n0_;(try clear hb);(try clear hb2);(try clear hk);(try clear hi))|((with_reducible refine gate_callee (f := 10) rfl ?_);refine goesL_ (some 17) rfl rfl Try.func10 (by kernel_rfl) rfl #[.slice A1 l1.length c1] rfl (by (try simp only [List.map_toArray,List.map_cons,List.map_nil]);first|done|rfl|(simp only [List.length_drop,List.length_take];rfl)) ?_;(with_reducible refine (strakelaw15_slim.calls k _ _ l1 true _ ?side1 ?side2 A4.out).mono ?_);(case side1 => repeat (first|exact (Kd.C_below HR1.out HB.out)|(with_reducible refine Kd.C_alloc ?_ _)|(with_reducible refine Kd.C_drewN ?_ _)|(with_reducible refine Kd.C_drew ?_)));(case side2 => exact HC1.out);rintro e w' ⟨rfl,⟨nd,rfl⟩⟩;refine ⟨_,rfl,?_⟩)|((with_reducible refine gate_callee (f := 11) rfl ?_);refine goesL_ (some 24) rfl rfl Try.func11 (by kernel_rfl) rfl #[.int .i64 a0,.slice A1 l1.length c1] rfl (by (try simp only [List.map_toArray,List.map_cons,List.map_nil]);first|done|rfl|(simp only [List.length_drop,List.length_take];rfl)) ?_;(with_reducible refine (page_Build.calls k a0 _ _ l1 t271 t272 t273 _ ?side1 ?side2 A6.out).mono ?_);(case side1 => repeat (first|exact (Kd.C_below HR1.out (by repeat (first|(with_reducible first|exact HB.out|apply below_alloc|apply pw_below_drewN|apply below_drew1)|exact HB.out)))|(with_reducible refine Kd.C_alloc ?_ _)|(with_reducible refine Kd.C_drewN ?_ _)|(with_reducible refine Kd.C_drew ?_)));(case side2 => exact HC1.out);rintro e w14 ⟨v274,v276,rfl,ho0,ho1,hb⟩;refine ⟨_,rfl,?_⟩;have n0_ := Aside0.mk (Kd.S_lower ho0 (below_size (by repeat (first|(with_reducible first|exact HB.out|apply below_alloc|apply pw_below_drewN|apply below_drew1)|exact HB.out))));have n1_ := Aside0.mk (Kd.S_lower ho1 (below_size (by repeat (first|(with_reducible first|exact HB.out|apply below_alloc|apply pw_below_drewN|apply below_drew1)|exact HB.out))));have n2_ := Aside0.mk (below_step (by repeat (first|(with_reducible first|exact HB.out|apply below_alloc|apply pw_below_drewN|apply below_drew1)|exact HB.out)) hb);clear HB;have HO275 := n0_;have HO277 := n1_;have HB := n2_;clear n0_ n1_ n2_;(try clear hb);(try clear hb2);(try clear hk);(try clear hi);(try clear ho0);(try clear ho1))|((with_reducible refine gate_callee (f := 12) rfl ?_);refine goesL_ (some 31) rfl rfl Try.func12 (by kernel_rfl) rfl #[.int .i64 a0,.slice A1 l1.length c1] rfl (by (try simp only [List.map_toArray,List.map_cons,List.map_nil]);first|done|rfl|(simp only [List.length_drop,List.length_take];rfl)) ?_;(with_reducible refine (strakeref15_Build.calls k a0 _ _ l1 t278 t279 t280 _ ?side1 ?side2 A7.out).mono ?_);(case side1 => repeat (first|exact (Kd.C_below HR1.out HB.out)|(with_reducible refine Kd.C_alloc ?_ _)|(with_reducible refine Kd.C_drewN ?_ _)|(with_reducible refine Kd.C_drew ?_)));(case side2 => exact HC1.out);rintro e w15 ⟨v281,v283,rfl,ho0,ho1,hb⟩;refine ⟨_,rfl,?_⟩;have n0_ := Aside0.mk (Kd.S_mono (Kd.S_told (Kd.S_told (Kd.S_old (by (with_reducible repeat (first|apply Kd.S_alloc|apply Kd.S_drewN|apply Kd.S_drew));exact HO275.out) hb) (Kd.S_base ho0)) (Kd.S_base ho1)) (fun _ h_ => h_.1));have n1_ := Aside0.mk (Kd.S_mono (Kd.S_told (Kd.S_told (Kd.S_old (by (with_reducible repeat (first|apply Kd.S_alloc|apply Kd.S_drewN|apply Kd.S_drew));exact HO277.out) hb) (Kd.S_base ho0)) (Kd.S_base ho1)) (fun _ h_ => h_.1));have n2_ := Aside0.mk (Kd.S_lower (Kd.S_new' (Kd.S_new' ho0 (Kd.S_lt (by (with_reducible repeat (first|apply Kd.S_alloc|apply Kd.S_drewN|apply Kd.S_drew));exact HO275.out))) (Kd.S_lt (by (with_reducible repeat (first|apply Kd.S_alloc|apply Kd.S_drewN|apply Kd.S_drew));exact HO277.out))) (below_size (by repeat (first|(with_reducible first|exact HB.out|apply below_alloc|apply pw_below_drewN|apply below_drew1)|exact HB.out))));have n3_ := Aside0.mk (Kd.S_lower (Kd.S_new' (Kd.S_new' ho1 (Kd.S_lt (by (with_reducible repeat (first|apply Kd.S_alloc|apply Kd.S_drewN|apply Kd.S_drew));exact HO275.out))) (Kd.S_lt (by (with_reducible repeat (first|apply Kd.S_alloc|apply Kd.S_drewN|apply Kd.S_drew));exact HO277.out))) (below_size (by repeat (first|(with_reducible first|exact HB.out|apply below_alloc|apply pw_below_drewN|apply below_drew1)|exact HB.out))));have n4_ := Aside0.mk (below_step (by repeat (first|(with_reducible first|exact HB.out|apply below_alloc|apply pw_below_drewN|apply below_drew1)|exact HB.out)) hb);clear HO275;clear HO277;clear HB;have HO275 := n0_;have HO277 := n1_;have HO282 := n2_;have HO284 := n3_;have HB := n4_;clear n0_ n1_ n2_ n3_ n4_;(try clear hb);(try clear hb2);(try clear hk);(try clear hi);(try clear ho0);(try clear ho1);obtain ⟨Ao16,co16,eo16⟩ := Kd.S_slice HO275.out;subst eo16;obtain ⟨Ao17,co17,eo17⟩ := Kd.S_slice HO282.out;subst eo17)|((with_reducible refine gate_callee (f := 13) rfl ?_);refine goesL_ (some 37) rfl rfl Try.func13 (by kernel_rfl) rfl #[.slice Ao16 t271.length co16,.slice Ao17 t278.length co17] rfl (by (try simp only [List.map_toArray,List.map_cons,List.map_nil]);first|done|rfl|(simp only [List.length_drop,List.length_take];rfl)) ?_;(with_reducible refine (strakeref15_SameBytes.calls k _ _ t271 _ _ t278 true _ ?side1 ?side2 ?side3 ?side4 A8.out).mono ?_);(case side1 => repeat (first|exact (Kd.S_reads' HO275.out).2.2|(with_reducible refine Kd.C_alloc ?_ _)|(with_reducible refine Kd.C_drewN ?_ _)|(with_reducible refine Kd.C_drew ?_)));(case side2 => exact (Kd.S_reads' HO275.out).2.1);(case side3 => repeat (first|exact (Kd.S_reads' HO282.out).2.2|(with_reducible refine Kd.C_alloc ?_ _)|(with_reducible refine Kd.C_drewN ?_ _)|(with_reducible refine Kd.C_drew ?_)));(case side4 => exact (Kd.S_reads' HO282.out).2.1);rintro e w' ⟨rfl,⟨nd,rfl⟩⟩;refine ⟨_,rfl,?_⟩;obtain ⟨Ao18,co18,eo18⟩ := Kd.S_slice HO277.out;subst eo18;obtain ⟨Ao19,co19,eo19⟩ := Kd.S_slice HO284.out;subst eo19)|((with_reducible refine gate_callee (f := 13) rfl ?_);refine goesL_ (some 40) rfl rfl Try.func13 (by kernel_rfl) rfl #[.slice Ao18 t272.length co18,.slice Ao19 t279.length co19] rfl (by (try simp only [List.map_toArray,List.map_cons,List.map_nil]);first|done|rfl|(simp only [List.length_drop,List.length_take];rfl)) ?_;(with_reducible refine (strakeref15_SameBytes.calls k _ _ t272 _ _ t279 true _ ?side1 ?side2 ?side3 ?side4 A9.out).mono ?_);(case side1 => repeat (first|exact (Kd.S_reads' HO277.out).2.2|(with_reducible refine Kd.C_alloc ?_ _)|(with_reducible refine Kd.C_drewN ?_ _)|(with_reducible refine Kd.C_drew ?_)));(case side2 => exact (Kd.S_reads' HO277.out).2.1);(case side3 => repeat (first|exact (Kd.S_reads' HO284.out).2.2|(with_reducible refine Kd.C_alloc ?_ _)|(with_reducible refine Kd.C_drewN ?_ _)|(with_reducible refine Kd.C_drew ?_)));(case side4 => exact (Kd.S_reads' HO284.out).2.1);rintro e w' ⟨rfl,⟨nd,rfl⟩⟩;refine ⟨_,rfl,?_⟩))
     go_ret
     exact ⟨by first|rfl|(simp [errW_none,errW_some] <;> rfl)|(simp [*,errW_none,errW_some] <;> rfl),by repeat (first|(with_reducible first|exact HB.out|apply below_alloc|apply pw_below_drewN|apply below_drew1)|exact HB.out)⟩
    ·replace c12 := Bool.eq_false_iff.mpr c12
     subst c12
     have H1 : (some false) = some r := by rw [if_neg (show ¬ (false = true) by decide)] at H; exact H
     clear H
     have H := H1
     clear H1
     obtain rfl := Option.some.inj H
     go_enter Try.func3, Try.ntmps3
     go_wp2_with (first|((with_reducible refine gate_callee (f := 9) rfl ?_);refine goesL_ (some 15) rfl rfl Try.func9 (by kernel_rfl) rfl #[] rfl (by (try simp only [List.map_toArray,List.map_cons,List.map_nil]);first|done|rfl|(simp only [List.length_drop,List.length_take];rfl)) ?_;(with_reducible refine (strakelaw15_awake.calls k  true _ A3.out).mono ?_);rintro e w20 ⟨rfl,hb⟩;refine ⟨_,rfl,?_⟩;have n0_ := Aside0.mk (below_step (by repeat (first|(with_reducible first|exact HB.out|apply below_alloc|apply pw_below_drewN|apply below_drew1)|exact HB.out)) hb);clear HB;have HB := n0_;clear n0_;(try clear hb);(try clear hb2);(try clear hk);(try clear hi))|((with_reducible refine gate_callee (f := 10) rfl ?_);refine goesL_ (some 17) rfl rfl Try.func10 (by kernel_rfl) rfl #[.slice A1 l1.length c1] rfl (by (try simp only [List.map_toArray,List.map_cons,List.map_nil]);first|done|rfl|(simp only [List.length_drop,List.length_take];rfl)) ?_;(with_reducible refine (strakelaw15_slim.calls k _ _ l1 true _ ?side1 ?side2 A4.out).mono ?_);(case side1 => repeat (first|exact (Kd.C_below HR1.out HB.out)|(with_reducible refine Kd.C_alloc ?_ _)|(with_reducible refine Kd.C_drewN ?_ _)|(with_reducible refine Kd.C_drew ?_)));(case side2 => exact HC1.out);rintro e w' ⟨rfl,⟨nd,rfl⟩⟩;refine ⟨_,rfl,?_⟩)|((with_reducible refine gate_callee (f := 11) rfl ?_);refine goesL_ (some 24) rfl rfl Try.func11 (by kernel_rfl) rfl #[.int .i64 a0,.slice A1 l1.length c1] rfl (by (try simp only [List.map_toArray,List.map_cons,List.map_nil]);first|done|rfl|(simp only [List.length_drop,List.length_take];rfl)) ?_;(with_reducible refine (page_Build.calls k a0 _ _ l1 t271 t272 t273 _ ?side1 ?side2 A6.out).mono ?_);(case side1 => repeat (first|exact (Kd.C_below HR1.out (by repeat (first|(with_reducible first|exact HB.out|apply below_alloc|apply pw_below_drewN|apply below_drew1)|exact HB.out)))|(with_reducible refine Kd.C_alloc ?_ _)|(with_reducible refine Kd.C_drewN ?_ _)|(with_reducible refine Kd.C_drew ?_)));(case side2 => exact HC1.out);rintro e w21 ⟨v274,v276,rfl,ho0,ho1,hb⟩;refine ⟨_,rfl,?_⟩;have n0_ := Aside0.mk (Kd.S_lower ho0 (below_size (by repeat (first|(with_reducible first|exact HB.out|apply below_alloc|apply pw_below_drewN|apply below_drew1)|exact HB.out))));have n1_ := Aside0.mk (Kd.S_lower ho1 (below_size (by repeat (first|(with_reducible first|exact HB.out|apply below_alloc|apply pw_below_drewN|apply below_drew1)|exact HB.out))));have n2_ := Aside0.mk (below_step (by repeat (first|(with_reducible first|exact HB.out|apply below_alloc|apply pw_below_drewN|apply below_drew1)|exact HB.out)) hb);clear HB;have HO275 := n0_;have HO277 := n1_;have HB := n2_;clear n0_ n1_ n2_;(try clear hb);(try clear hb2);(try clear hk);(try clear hi);(try clear ho0);(try clear ho1))|((with_reducible refine gate_callee (f := 12) rfl ?_);refine goesL_ (some 31) rfl rfl Try.func12 (by kernel_rfl) rfl #[.int .i64 a0,.slice A1 l1.length c1] rfl (by (try simp only [List.map_toArray,List.map_cons,List.map_nil]);first|done|rfl|(simp only [List.length_drop,List.length_take];rfl)) ?_;(with_reducible refine (strakeref15_Build.calls k a0 _ _ l1 t278 t279 t280 _ ?side1 ?side2 A7.out).mono ?_);(case side1 => repeat (first|exact (Kd.C_below HR1.out HB.out)|(with_reducible refine Kd.C_alloc ?_ _)|(with_reducible refine Kd.C_drewN ?_ _)|(with_reducible refine Kd.C_drew ?_)));(case side2 => exact HC1.out);rintro e w22 ⟨v281,v283,rfl,ho0,ho1,hb⟩;refine ⟨_,rfl,?_⟩;have n0_ := Aside0.mk (Kd.S_mono (Kd.S_told (Kd.S_told (Kd.S_old (by (with_reducible repeat (first|apply Kd.S_alloc|apply Kd.S_drewN|apply Kd.S_drew));exact HO275.out) hb) (Kd.S_base ho0)) (Kd.S_base ho1)) (fun _ h_ => h_.1));have n1_ := Aside0.mk (Kd.S_mono (Kd.S_told (Kd.S_told (Kd.S_old (by (with_reducible repeat (first|apply Kd.S_alloc|apply Kd.S_drewN|apply Kd.S_drew));exact HO277.out) hb) (Kd.S_base ho0)) (Kd.S_base ho1)) (fun _ h_ => h_.1));have n2_ := Aside0.mk (Kd.S_lower (Kd.S_new' (Kd.S_new' ho0 (Kd.S_lt (by (with_reducible repeat (first|apply Kd.S_alloc|apply Kd.S_drewN|apply Kd.S_drew));exact HO275.out))) (Kd.S_lt (by (with_reducible repeat (first|apply Kd.S_alloc|apply Kd.S_drewN|apply Kd.S_drew));exact HO277.out))) (below_size (by repeat (first|(with_reducible first|exact HB.out|apply below_alloc|apply pw_below_drewN|apply below_drew1)|exact HB.out))));have n3_ := Aside0.mk (Kd.S_lower (Kd.S_new' (Kd.S_new' ho1 (Kd.S_lt (by (with_reducible repeat (first|apply Kd.S_alloc|apply Kd.S_drewN|apply Kd.S_drew));exact HO275.out))) (Kd.S_lt (by (with_reducible repeat (first|apply Kd.S_alloc|apply Kd.S_drewN|apply Kd.S_drew));exact HO277.out))) (below_size (by repeat (first|(with_reducible first|exact HB.out|apply below_alloc|apply pw_below_drewN|apply below_drew1)|exact HB.out))));have n4_ := Aside0.mk (below_step (by repeat (first|(with_reducible first|exact HB.out|apply below_alloc|apply pw_below_drewN|apply below_drew1)|exact HB.out)) hb);clear HO275;clear HO277;clear HB;have HO275 := n0_;have HO277 := n1_;have HO282 := n2_;have HO284 := n3_;have HB := n4_;clear n0_ n1_ n2_ n3_ n4_;(try clear hb);(try clear hb2);(try clear hk);(try clear hi);(try clear ho0);(try clear ho1);obtain ⟨Ao23,co23,eo23⟩ := Kd.S_slice HO275.out;subst eo23;obtain ⟨Ao24,co24,eo24⟩ := Kd.S_slice HO282.out;subst eo24)|((with_reducible refine gate_callee (f := 13) rfl ?_);refine goesL_ (some 37) rfl rfl Try.func13 (by kernel_rfl) rfl #[.slice Ao23 t271.length co23,.slice Ao24 t278.length co24] rfl (by (try simp only [List.map_toArray,List.map_cons,List.map_nil]);first|done|rfl|(simp only [List.length_drop,List.length_take];rfl)) ?_;(with_reducible refine (strakeref15_SameBytes.calls k _ _ t271 _ _ t278 true _ ?side1 ?side2 ?side3 ?side4 A8.out).mono ?_);(case side1 => repeat (first|exact (Kd.S_reads' HO275.out).2.2|(with_reducible refine Kd.C_alloc ?_ _)|(with_reducible refine Kd.C_drewN ?_ _)|(with_reducible refine Kd.C_drew ?_)));(case side2 => exact (Kd.S_reads' HO275.out).2.1);(case side3 => repeat (first|exact (Kd.S_reads' HO282.out).2.2|(with_reducible refine Kd.C_alloc ?_ _)|(with_reducible refine Kd.C_drewN ?_ _)|(with_reducible refine Kd.C_drew ?_)));(case side4 => exact (Kd.S_reads' HO282.out).2.1);rintro e w' ⟨rfl,⟨nd,rfl⟩⟩;refine ⟨_,rfl,?_⟩;obtain ⟨Ao25,co25,eo25⟩ := Kd.S_slice HO277.out;subst eo25;obtain ⟨Ao26,co26,eo26⟩ := Kd.S_slice HO284.out;subst eo26)|((with_reducible refine gate_callee (f := 13) rfl ?_);refine goesL_ (some 40) rfl rfl Try.func13 (by kernel_rfl) rfl #[.slice Ao25 t272.length co25,.slice Ao26 t279.length co26] rfl (by (try simp only [List.map_toArray,List.map_cons,List.map_nil]);first|done|rfl|(simp only [List.length_drop,List.length_take];rfl)) ?_;(with_reducible refine (strakeref15_SameBytes.calls k _ _ t272 _ _ t279 false _ ?side1 ?side2 ?side3 ?side4 A9.out).mono ?_);(case side1 => repeat (first|exact (Kd.S_reads' HO277.out).2.2|(with_reducible refine Kd.C_alloc ?_ _)|(with_reducible refine Kd.C_drewN ?_ _)|(with_reducible refine Kd.C_drew ?_)));(case side2 => exact (Kd.S_reads' HO277.out).2.1);(case side3 => repeat (first|exact (Kd.S_reads' HO284.out).2.2|(with_reducible refine Kd.C_alloc ?_ _)|(with_reducible refine Kd.C_drewN ?_ _)|(with_reducible refine Kd.C_drew ?_)));(case side4 => exact (Kd.S_reads' HO284.out).2.1);rintro e w' ⟨rfl,⟨nd,rfl⟩⟩;refine ⟨_,rfl,?_⟩))
     go_ret
     exact ⟨by first|rfl|(simp [errW_none,errW_some] <;> rfl)|(simp [*,errW_none,errW_some] <;> rfl),by repeat (first|(with_reducible first|exact HB.out|apply below_alloc|apply pw_below_drewN|apply below_drew1)|exact HB.out)⟩
   ·replace c11 := Bool.eq_false_iff.mpr c11
    subst c11
    have H1 : (some false) = some r := by rw [if_neg (show ¬ (false = true) by decide)] at H; exact H
    clear H
    have H := H1
    clear H1
    obtain rfl := Option.some.inj H
    go_enter Try.func3, Try.ntmps3
    go_wp2_with (first|((with_reducible refine gate_callee (f := 9) rfl ?_);refine goesL_ (some 15) rfl rfl Try.func9 (by kernel_rfl) rfl #[] rfl (by (try simp only [List.map_toArray,List.map_cons,List.map_nil]);first|done|rfl|(simp only [List.length_drop,List.length_take];rfl)) ?_;(with_reducible refine (strakelaw15_awake.calls k  true _ A3.out).mono ?_);rintro e w27 ⟨rfl,hb⟩;refine ⟨_,rfl,?_⟩;have n0_ := Aside0.mk (below_step (by repeat (first|(with_reducible first|exact HB.out|apply below_alloc|apply pw_below_drewN|apply below_drew1)|exact HB.out)) hb);clear HB;have HB := n0_;clear n0_;(try clear hb);(try clear hb2);(try clear hk);(try clear hi))|((with_reducible refine gate_callee (f := 10) rfl ?_);refine goesL_ (some 17) rfl rfl Try.func10 (by kernel_rfl) rfl #[.slice A1 l1.length c1] rfl (by (try simp only [List.map_toArray,List.map_cons,List.map_nil]);first|done|rfl|(simp only [List.length_drop,List.length_take];rfl)) ?_;(with_reducible refine (strakelaw15_slim.calls k _ _ l1 true _ ?side1 ?side2 A4.out).mono ?_);(case side1 => repeat (first|exact (Kd.C_below HR1.out HB.out)|(with_reducible refine Kd.C_alloc ?_ _)|(with_reducible refine Kd.C_drewN ?_ _)|(with_reducible refine Kd.C_drew ?_)));(case side2 => exact HC1.out);rintro e w' ⟨rfl,⟨nd,rfl⟩⟩;refine ⟨_,rfl,?_⟩)|((with_reducible refine gate_callee (f := 11) rfl ?_);refine goesL_ (some 24) rfl rfl Try.func11 (by kernel_rfl) rfl #[.int .i64 a0,.slice A1 l1.length c1] rfl (by (try simp only [List.map_toArray,List.map_cons,List.map_nil]);first|done|rfl|(simp only [List.length_drop,List.length_take];rfl)) ?_;(with_reducible refine (page_Build.calls k a0 _ _ l1 t271 t272 t273 _ ?side1 ?side2 A6.out).mono ?_);(case side1 => repeat (first|exact (Kd.C_below HR1.out (by repeat (first|(with_reducible first|exact HB.out|apply below_alloc|apply pw_below_drewN|apply below_drew1)|exact HB.out)))|(with_reducible refine Kd.C_alloc ?_ _)|(with_reducible refine Kd.C_drewN ?_ _)|(with_reducible refine Kd.C_drew ?_)));(case side2 => exact HC1.out);rintro e w28 ⟨v274,v276,rfl,ho0,ho1,hb⟩;refine ⟨_,rfl,?_⟩;have n0_ := Aside0.mk (Kd.S_lower ho0 (below_size (by repeat (first|(with_reducible first|exact HB.out|apply below_alloc|apply pw_below_drewN|apply below_drew1)|exact HB.out))));have n1_ := Aside0.mk (Kd.S_lower ho1 (below_size (by repeat (first|(with_reducible first|exact HB.out|apply below_alloc|apply pw_below_drewN|apply below_drew1)|exact HB.out))));have n2_ := Aside0.mk (below_step (by repeat (first|(with_reducible first|exact HB.out|apply below_alloc|apply pw_below_drewN|apply below_drew1)|exact HB.out)) hb);clear HB;have HO275 := n0_;have HO277 := n1_;have HB := n2_;clear n0_ n1_ n2_;(try clear hb);(try clear hb2);(try clear hk);(try clear hi);(try clear ho0);(try clear ho1))|((with_reducible refine gate_callee (f := 12) rfl ?_);refine goesL_ (some 31) rfl rfl Try.func12 (by kernel_rfl) rfl #[.int .i64 a0,.slice A1 l1.length c1] rfl (by (try simp only [List.map_toArray,List.map_cons,List.map_nil]);first|done|rfl|(simp only [List.length_drop,List.length_take];rfl)) ?_;(with_reducible refine (strakeref15_Build.calls k a0 _ _ l1 t278 t279 t280 _ ?side1 ?side2 A7.out).mono ?_);(case side1 => repeat (first|exact (Kd.C_below HR1.out HB.out)|(with_reducible refine Kd.C_alloc ?_ _)|(with_reducible refine Kd.C_drewN ?_ _)|(with_reducible refine Kd.C_drew ?_)));(case side2 => exact HC1.out);rintro e w29 ⟨v281,v283,rfl,ho0,ho1,hb⟩;refine ⟨_,rfl,?_⟩;have n0_ := Aside0.mk (Kd.S_mono (Kd.S_told (Kd.S_told (Kd.S_old (by (with_reducible repeat (first|apply Kd.S_alloc|apply Kd.S_drewN|apply Kd.S_drew));exact HO275.out) hb) (Kd.S_base ho0)) (Kd.S_base ho1)) (fun _ h_ => h_.1));have n1_ := Aside0.mk (Kd.S_mono (Kd.S_told (Kd.S_told (Kd.S_old (by (with_reducible repeat (first|apply Kd.S_alloc|apply Kd.S_drewN|apply Kd.S_drew));exact HO277.out) hb) (Kd.S_base ho0)) (Kd.S_base ho1)) (fun _ h_ => h_.1));have n2_ := Aside0.mk (Kd.S_lower (Kd.S_new' (Kd.S_new' ho0 (Kd.S_lt (by (with_reducible repeat (first|apply Kd.S_alloc|apply Kd.S_drewN|apply Kd.S_drew));exact HO275.out))) (Kd.S_lt (by (with_reducible repeat (first|apply Kd.S_alloc|apply Kd.S_drewN|apply Kd.S_drew));exact HO277.out))) (below_size (by repeat (first|(with_reducible first|exact HB.out|apply below_alloc|apply pw_below_drewN|apply below_drew1)|exact HB.out))));have n3_ := Aside0.mk (Kd.S_lower (Kd.S_new' (Kd.S_new' ho1 (Kd.S_lt (by (with_reducible repeat (first|apply Kd.S_alloc|apply Kd.S_drewN|apply Kd.S_drew));exact HO275.out))) (Kd.S_lt (by (with_reducible repeat (first|apply Kd.S_alloc|apply Kd.S_drewN|apply Kd.S_drew));exact HO277.out))) (below_size (by repeat (first|(with_reducible first|exact HB.out|apply below_alloc|apply pw_below_drewN|apply below_drew1)|exact HB.out))));have n4_ := Aside0.mk (below_step (by repeat (first|(with_reducible first|exact HB.out|apply below_alloc|apply pw_below_drewN|apply below_drew1)|exact HB.out)) hb);clear HO275;clear HO277;clear HB;have HO275 := n0_;have HO277 := n1_;have HO282 := n2_;have HO284 := n3_;have HB := n4_;clear n0_ n1_ n2_ n3_ n4_;(try clear hb);(try clear hb2);(try clear hk);(try clear hi);(try clear ho0);(try clear ho1);obtain ⟨Ao30,co30,eo30⟩ := Kd.S_slice HO275.out;subst eo30;obtain ⟨Ao31,co31,eo31⟩ := Kd.S_slice HO282.out;subst eo31)|((with_reducible refine gate_callee (f := 13) rfl ?_);refine goesL_ (some 37) rfl rfl Try.func13 (by kernel_rfl) rfl #[.slice Ao30 t271.length co30,.slice Ao31 t278.length co31] rfl (by (try simp only [List.map_toArray,List.map_cons,List.map_nil]);first|done|rfl|(simp only [List.length_drop,List.length_take];rfl)) ?_;(with_reducible refine (strakeref15_SameBytes.calls k _ _ t271 _ _ t278 false _ ?side1 ?side2 ?side3 ?side4 A8.out).mono ?_);(case side1 => repeat (first|exact (Kd.S_reads' HO275.out).2.2|(with_reducible refine Kd.C_alloc ?_ _)|(with_reducible refine Kd.C_drewN ?_ _)|(with_reducible refine Kd.C_drew ?_)));(case side2 => exact (Kd.S_reads' HO275.out).2.1);(case side3 => repeat (first|exact (Kd.S_reads' HO282.out).2.2|(with_reducible refine Kd.C_alloc ?_ _)|(with_reducible refine Kd.C_drewN ?_ _)|(with_reducible refine Kd.C_drew ?_)));(case side4 => exact (Kd.S_reads' HO282.out).2.1);rintro e w' ⟨rfl,⟨nd,rfl⟩⟩;refine ⟨_,rfl,?_⟩;obtain ⟨Ao32,co32,eo32⟩ := Kd.S_slice HO277.out;subst eo32;obtain ⟨Ao33,co33,eo33⟩ := Kd.S_slice HO284.out;subst eo33)|((with_reducible refine gate_callee (f := 13) rfl ?_);refine goesL_ (some 40) rfl rfl Try.func13 (by kernel_rfl) rfl #[.slice Ao32 t272.length co32,.slice Ao33 t279.length co33] rfl (by (try simp only [List.map_toArray,List.map_cons,List.map_nil]);first|done|rfl|(simp only [List.length_drop,List.length_take];rfl)) ?_;(with_reducible refine (strakeref15_SameBytes.calls k _ _ t272 _ _ t279 t286 _ ?side1 ?side2 ?side3 ?side4 A9.out).mono ?_);(case side1 => repeat (first|exact (Kd.S_reads' HO277.out).2.2|(with_reducible refine Kd.C_alloc ?_ _)|(with_reducible refine Kd.C_drewN ?_ _)|(with_reducible refine Kd.C_drew ?_)));(case side2 => exact (Kd.S_reads' HO277.out).2.1);(case side3 => repeat (first|exact (Kd.S_reads' HO284.out).2.2|(with_reducible refine Kd.C_alloc ?_ _)|(with_reducible refine Kd.C_drewN ?_ _)|(with_reducible refine Kd.C_drew ?_)));(case side4 => exact (Kd.S_reads' HO284.out).2.1);rintro e w' ⟨rfl,⟨nd,rfl⟩⟩;refine ⟨_,rfl,?_⟩))
    go_ret
    exact ⟨by first|rfl|(simp [errW_none,errW_some] <;> rfl)|(simp [*,errW_none,errW_some] <;> rfl),by repeat (first|(with_reducible first|exact HB.out|apply below_alloc|apply pw_below_drewN|apply below_drew1)|exact HB.out)⟩
  ·replace c10 := Bool.eq_false_iff.mpr c10
   subst c10
   have H1 : (some false) = some r := by rw [if_neg (show ¬ (false = true) by decide)] at H; exact H
   clear H
   have H := H1
   clear H1
   obtain rfl := Option.some.inj H
   go_enter Try.func3, Try.ntmps3
   go_wp2_with (first|((with_reducible refine gate_callee (f := 9) rfl ?_);refine goesL_ (some 15) rfl rfl Try.func9 (by kernel_rfl) rfl #[] rfl (by (try simp only [List.map_toArray,List.map_cons,List.map_nil]);first|done|rfl|(simp only [List.length_drop,List.length_take];rfl)) ?_;(with_reducible refine (strakelaw15_awake.calls k  false _ A3.out).mono ?_);rintro e w34 ⟨rfl,hb⟩;refine ⟨_,rfl,?_⟩;have n0_ := Aside0.mk (below_step (by repeat (first|(with_reducible first|exact HB.out|apply below_alloc|apply pw_below_drewN|apply below_drew1)|exact HB.out)) hb);clear HB;have HB := n0_;clear n0_;(try clear hb);(try clear hb2);(try clear hk);(try clear hi))|((with_reducible refine gate_callee (f := 10) rfl ?_);refine goesL_ (some 17) rfl rfl Try.func10 (by kernel_rfl) rfl #[.slice A1 l1.length c1] rfl (by (try simp only [List.map_toArray,List.map_cons,List.map_nil]);first|done|rfl|(simp only [List.length_drop,List.length_take];rfl)) ?_;(with_reducible refine (strakelaw15_slim.calls k _ _ l1 true _ ?side1 ?side2 A4.out).mono ?_);(case side1 => repeat (first|exact (Kd.C_below HR1.out HB.out)|(with_reducible refine Kd.C_alloc ?_ _)|(with_reducible refine Kd.C_drewN ?_ _)|(with_reducible refine Kd.C_drew ?_)));(case side2 => exact HC1.out);rintro e w' ⟨rfl,⟨nd,rfl⟩⟩;refine ⟨_,rfl,?_⟩)|((with_reducible refine gate_callee (f := 11) rfl ?_);refine goesL_ (some 24) rfl rfl Try.func11 (by kernel_rfl) rfl #[.int .i64 a0,.slice A1 l1.length c1] rfl (by (try simp only [List.map_toArray,List.map_cons,List.map_nil]);first|done|rfl|(simp only [List.length_drop,List.length_take];rfl)) ?_;(with_reducible refine (page_Build.calls k a0 _ _ l1 t271 t272 t273 _ ?side1 ?side2 A6.out).mono ?_);(case side1 => repeat (first|exact (Kd.C_below HR1.out (by repeat (first|(with_reducible first|exact HB.out|apply below_alloc|apply pw_below_drewN|apply below_drew1)|exact HB.out)))|(with_reducible refine Kd.C_alloc ?_ _)|(with_reducible refine Kd.C_drewN ?_ _)|(with_reducible refine Kd.C_drew ?_)));(case side2 => exact HC1.out);rintro e w35 ⟨v274,v276,rfl,ho0,ho1,hb⟩;refine ⟨_,rfl,?_⟩;have n0_ := Aside0.mk (Kd.S_lower ho0 (below_size (by repeat (first|(with_reducible first|exact HB.out|apply below_alloc|apply pw_below_drewN|apply below_drew1)|exact HB.out))));have n1_ := Aside0.mk (Kd.S_lower ho1 (below_size (by repeat (first|(with_reducible first|exact HB.out|apply below_alloc|apply pw_below_drewN|apply below_drew1)|exact HB.out))));have n2_ := Aside0.mk (below_step (by repeat (first|(with_reducible first|exact HB.out|apply below_alloc|apply pw_below_drewN|apply below_drew1)|exact HB.out)) hb);clear HB;have HO275 := n0_;have HO277 := n1_;have HB := n2_;clear n0_ n1_ n2_;(try clear hb);(try clear hb2);(try clear hk);(try clear hi);(try clear ho0);(try clear ho1))|((with_reducible refine gate_callee (f := 12) rfl ?_);refine goesL_ (some 31) rfl rfl Try.func12 (by kernel_rfl) rfl #[.int .i64 a0,.slice A1 l1.length c1] rfl (by (try simp only [List.map_toArray,List.map_cons,List.map_nil]);first|done|rfl|(simp only [List.length_drop,List.length_take];rfl)) ?_;(with_reducible refine (strakeref15_Build.calls k a0 _ _ l1 t278 t279 t280 _ ?side1 ?side2 A7.out).mono ?_);(case side1 => repeat (first|exact (Kd.C_below HR1.out HB.out)|(with_reducible refine Kd.C_alloc ?_ _)|(with_reducible refine Kd.C_drewN ?_ _)|(with_reducible refine Kd.C_drew ?_)));(case side2 => exact HC1.out);rintro e w36 ⟨v281,v283,rfl,ho0,ho1,hb⟩;refine ⟨_,rfl,?_⟩;have n0_ := Aside0.mk (Kd.S_mono (Kd.S_told (Kd.S_told (Kd.S_old (by (with_reducible repeat (first|apply Kd.S_alloc|apply Kd.S_drewN|apply Kd.S_drew));exact HO275.out) hb) (Kd.S_base ho0)) (Kd.S_base ho1)) (fun _ h_ => h_.1));have n1_ := Aside0.mk (Kd.S_mono (Kd.S_told (Kd.S_told (Kd.S_old (by (with_reducible repeat (first|apply Kd.S_alloc|apply Kd.S_drewN|apply Kd.S_drew));exact HO277.out) hb) (Kd.S_base ho0)) (Kd.S_base ho1)) (fun _ h_ => h_.1));have n2_ := Aside0.mk (Kd.S_lower (Kd.S_new' (Kd.S_new' ho0 (Kd.S_lt (by (with_reducible repeat (first|apply Kd.S_alloc|apply Kd.S_drewN|apply Kd.S_drew));exact HO275.out))) (Kd.S_lt (by (with_reducible repeat (first|apply Kd.S_alloc|apply Kd.S_drewN|apply Kd.S_drew));exact HO277.out))) (below_size (by repeat (first|(with_reducible first|exact HB.out|apply below_alloc|apply pw_below_drewN|apply below_drew1)|exact HB.out))));have n3_ := Aside0.mk (Kd.S_lower (Kd.S_new' (Kd.S_new' ho1 (Kd.S_lt (by (with_reducible repeat (first|apply Kd.S_alloc|apply Kd.S_drewN|apply Kd.S_drew));exact HO275.out))) (Kd.S_lt (by (with_reducible repeat (first|apply Kd.S_alloc|apply Kd.S_drewN|apply Kd.S_drew));exact HO277.out))) (below_size (by repeat (first|(with_reducible first|exact HB.out|apply below_alloc|apply pw_below_drewN|apply below_drew1)|exact HB.out))));have n4_ := Aside0.mk (below_step (by repeat (first|(with_reducible first|exact HB.out|apply below_alloc|apply pw_below_drewN|apply below_drew1)|exact HB.out)) hb);clear HO275;clear HO277;clear HB;have HO275 := n0_;have HO277 := n1_;have HO282 := n2_;have HO284 := n3_;have HB := n4_;clear n0_ n1_ n2_ n3_ n4_;(try clear hb);(try clear hb2);(try clear hk);(try clear hi);(try clear ho0);(try clear ho1);obtain ⟨Ao37,co37,eo37⟩ := Kd.S_slice HO275.out;subst eo37;obtain ⟨Ao38,co38,eo38⟩ := Kd.S_slice HO282.out;subst eo38)|((with_reducible refine gate_callee (f := 13) rfl ?_);refine goesL_ (some 37) rfl rfl Try.func13 (by kernel_rfl) rfl #[.slice Ao37 t271.length co37,.slice Ao38 t278.length co38] rfl (by (try simp only [List.map_toArray,List.map_cons,List.map_nil]);first|done|rfl|(simp only [List.length_drop,List.length_take];rfl)) ?_;(with_reducible refine (strakeref15_SameBytes.calls k _ _ t271 _ _ t278 t285 _ ?side1 ?side2 ?side3 ?side4 A8.out).mono ?_);(case side1 => repeat (first|exact (Kd.S_reads' HO275.out).2.2|(with_reducible refine Kd.C_alloc ?_ _)|(with_reducible refine Kd.C_drewN ?_ _)|(with_reducible refine Kd.C_drew ?_)));(case side2 => exact (Kd.S_reads' HO275.out).2.1);(case side3 => repeat (first|exact (Kd.S_reads' HO282.out).2.2|(with_reducible refine Kd.C_alloc ?_ _)|(with_reducible refine Kd.C_drewN ?_ _)|(with_reducible refine Kd.C_drew ?_)));(case side4 => exact (Kd.S_reads' HO282.out).2.1);rintro e w' ⟨rfl,⟨nd,rfl⟩⟩;refine ⟨_,rfl,?_⟩;obtain ⟨Ao39,co39,eo39⟩ := Kd.S_slice HO277.out;subst eo39;obtain ⟨Ao40,co40,eo40⟩ := Kd.S_slice HO284.out;subst eo40)|((with_reducible refine gate_callee (f := 13) rfl ?_);refine goesL_ (some 40) rfl rfl Try.func13 (by kernel_rfl) rfl #[.slice Ao39 t272.length co39,.slice Ao40 t279.length co40] rfl (by (try simp only [List.map_toArray,List.map_cons,List.map_nil]);first|done|rfl|(simp only [List.length_drop,List.length_take];rfl)) ?_;(with_reducible refine (strakeref15_SameBytes.calls k _ _ t272 _ _ t279 t286 _ ?side1 ?side2 ?side3 ?side4 A9.out).mono ?_);(case side1 => repeat (first|exact (Kd.S_reads' HO277.out).2.2|(with_reducible refine Kd.C_alloc ?_ _)|(with_reducible refine Kd.C_drewN ?_ _)|(with_reducible refine Kd.C_drew ?_)));(case side2 => exact (Kd.S_reads' HO277.out).2.1);(case side3 => repeat (first|exact (Kd.S_reads' HO284.out).2.2|(with_reducible refine Kd.C_alloc ?_ _)|(with_reducible refine Kd.C_drewN ?_ _)|(with_reducible refine Kd.C_drew ?_)));(case side4 => exact (Kd.S_reads' HO284.out).2.1);rintro e w' ⟨rfl,⟨nd,rfl⟩⟩;refine ⟨_,rfl,?_⟩))
   go_ret
   exact ⟨by first|rfl|(simp [errW_none,errW_some] <;> rfl)|(simp [*,errW_none,errW_some] <;> rfl),by repeat (first|(with_reducible first|exact HB.out|apply below_alloc|apply pw_below_drewN|apply below_drew1)|exact HB.out)⟩
 ·replace c5 := Bool.eq_false_iff.mpr c5
  subst c5
  have H1 : (some t269) = some r := by rw [if_neg (show ¬ (false = true) by decide)] at H; exact H
  clear H
  have H := H1
  clear H1
  obtain rfl := Option.some.inj H
  go_enter Try.func3, Try.ntmps3
  go_wp2_with (first|((with_reducible refine gate_callee (f := 9) rfl ?_);refine goesL_ (some 15) rfl rfl Try.func9 (by kernel_rfl) rfl #[] rfl (by (try simp only [List.map_toArray,List.map_cons,List.map_nil]);first|done|rfl|(simp only [List.length_drop,List.length_take];rfl)) ?_;(with_reducible refine (strakelaw15_awake.calls k  t269 _ A3.out).mono ?_);rintro e w41 ⟨rfl,hb⟩;refine ⟨_,rfl,?_⟩;have n0_ := Aside0.mk (below_step (by repeat (first|(with_reducible first|exact HB.out|apply below_alloc|apply pw_below_drewN|apply below_drew1)|exact HB.out)) hb);clear HB;have HB := n0_;clear n0_;(try clear hb);(try clear hb2);(try clear hk);(try clear hi))|((with_reducible refine gate_callee (f := 10) rfl ?_);refine goesL_ (some 17) rfl rfl Try.func10 (by kernel_rfl) rfl #[.slice A1 l1.length c1] rfl (by (try simp only [List.map_toArray,List.map_cons,List.map_nil]);first|done|rfl|(simp only [List.length_drop,List.length_take];rfl)) ?_;(with_reducible refine (strakelaw15_slim.calls k _ _ l1 false _ ?side1 ?side2 A4.out).mono ?_);(case side1 => repeat (first|exact (Kd.C_below HR1.out HB.out)|(with_reducible refine Kd.C_alloc ?_ _)|(with_reducible refine Kd.C_drewN ?_ _)|(with_reducible refine Kd.C_drew ?_)));(case side2 => exact HC1.out);rintro e w' ⟨rfl,⟨nd,rfl⟩⟩;refine ⟨_,rfl,?_⟩))
  go_ret
  exact ⟨by first|rfl|(simp [errW_none,errW_some] <;> rfl)|(simp [*,errW_none,errW_some] <;> rfl),by repeat (first|(with_reducible first|exact HB.out|apply below_alloc|apply pw_below_drewN|apply below_drew1)|exact HB.out)⟩

end Go.Proofs.Ythoebkkohdfgeaa.X
