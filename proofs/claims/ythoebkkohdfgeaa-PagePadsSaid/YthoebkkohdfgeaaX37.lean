-- laid by wip/tools/xprint.py (our own changes over the printer) · fix_pagepads
import Derived.Test.YthoebkkohdfgeaaX0
import Derived.Test.YthoebkkohdfgeaaX1
import Derived.Test.YthoebkkohdfgeaaX13
import Derived.Test.YthoebkkohdfgeaaX16
namespace Go.Proofs.Ythoebkkohdfgeaa.X
open Go.RowKit Go.Proofs.YthoebkkohdfgeaaW.PrintWords Go.Proofs.YthoebkkohdfgeaaW.PrintLast Go.Proofs.YthoebkkohdfgeaaW.PrintMore
attribute [local go_sem] max2_int min2_int max_two min_two max_three min_three max_four min_four   -- for this text's walks alone
set_option linter.unusedVariables false
set_option linter.unusedSimpArgs false

attribute [local go_sem high] eqA40
/-! ### strakelaw15_PagePads: function 7 -/
mutual
def strakelaw15_PagePads.j0 : Nat → Int → List (S38) → Bool → List (List Int) → List (List Int) → Bool → Option (Bool)
 | 0, _, _, _, _, _, _ => none
 | k + 1,x0,x1,x5,x7,x8,x38 => if x38 = true then (some false) else (strakelaw15_PagePads.l0 k x0 x1 x5 x7 x8 (x1.length : Int))
def strakelaw15_PagePads.l0 : Nat → Int → List (S38) → Bool → List (List Int) → List (List Int) → Int → Option (Bool)
 | 0, _, _, _, _, _, _ => none
 | k + 1,x0,x1,x5,x7,x8,x10 => if x10 < x0 then (if 0 ≤ x10 then (if x10 < (x8.length : Int) then (if x10 < (x7.length : Int) then ((oob_Unpack.f k (rd_L2 x8 x10) (rd_L2 x7 x10)).bind fun bt421 => (if bt421.2.2.2 = 0 then (if (!(bt421.1 == 3) || (!(bt421.2.1 == 0) || (!(bt421.2.2.1 == 0)))) = true then (strakelaw15_PagePads.j2 k x0 x1 x5 x7 x8 x10 true) else (if 16 ≤ 281474976710656 then (strakelaw15_PagePads.j2 k x0 x1 x5 x7 x8 x10 ((strOfNums (rd_L2 x7 x10)).toList != (strOfNums (List.replicate 16 0)).toList)) else (none))) else (strakelaw15_PagePads.j2 k x0 x1 x5 x7 x8 x10 true))) else (none)) else (none)) else (none)) else (if x5 = true then (if 0 ≤ (x1.length : Int) then (if (x1.length : Int) ≤ (x7.length : Int) then (if (x1.length : Int) ≤ (x8.length : Int) then ((page_Read.f k (x7.drop ((x1.length : Int) : Int).toNat) (x8.drop ((x1.length : Int) : Int).toNat)).bind fun t438 => (some ((t438.length : Int) == 0))) else (none)) else (none)) else (none)) else (some false))
def strakelaw15_PagePads.j2 : Nat → Int → List (S38) → Bool → List (List Int) → List (List Int) → Int → Bool → Option (Bool)
 | 0, _, _, _, _, _, _, _ => none
 | k + 1,x0,x1,x5,x7,x8,x10,x74 => if x74 = true then (some false) else (strakelaw15_PagePads.l0 k x0 x1 x5 x7 x8 (wrap64 (x10 + 1)))
end
def strakelaw15_PagePads.f (k : Nat) (a0 : Int) (l1 : List (S38)) : Option (Bool) := (strakelaw15_awake.f k).bind fun t410 => ((strakelaw15_slim.f k l1).bind fun t411 => (if t411 = true then ((page_Build.f k a0 l1).bind fun bt412 => (if bt412.2.2 = 0 then (if (bt412.1.length : Int) = a0 then (strakelaw15_PagePads.j0 k a0 l1 t410 bt412.1 bt412.2.1 ((bt412.2.1.length : Int) != a0)) else (strakelaw15_PagePads.j0 k a0 l1 t410 bt412.1 bt412.2.1 true)) else (some t410))) else (some t410)))
theorem strakelaw15_PagePads.mono_l : ∀ k,(∀ y0 y1 y2 y3 y4 y5,LeO (strakelaw15_PagePads.j0 k y0 y1 y2 y3 y4 y5) (strakelaw15_PagePads.j0 (k + 1) y0 y1 y2 y3 y4 y5)) ∧ (∀ y0 y1 y2 y3 y4 y5,LeO (strakelaw15_PagePads.l0 k y0 y1 y2 y3 y4 y5) (strakelaw15_PagePads.l0 (k + 1) y0 y1 y2 y3 y4 y5)) ∧ (∀ y0 y1 y2 y3 y4 y5 y6,LeO (strakelaw15_PagePads.j2 k y0 y1 y2 y3 y4 y5 y6) (strakelaw15_PagePads.j2 (k + 1) y0 y1 y2 y3 y4 y5 y6))
 | 0 => ⟨fun _ _ _ _ _ _ r h => by simp [strakelaw15_PagePads.j0] at h,fun _ _ _ _ _ _ r h => by simp [strakelaw15_PagePads.l0] at h,fun _ _ _ _ _ _ _ r h => by simp [strakelaw15_PagePads.j2] at h⟩
 | k + 1 => by
  obtain ⟨ih0, ih1, ih2⟩ := strakelaw15_PagePads.mono_l k
  refine ⟨?_, ?_, ?_⟩
  ·intro y0 y1 y2 y3 y4 y5
   unfold strakelaw15_PagePads.j0
   repeat' first
   | (with_reducible exact ih0 _ _ _ _ _ _)
   | (with_reducible exact ih1 _ _ _ _ _ _)
   | (with_reducible exact ih2 _ _ _ _ _ _ _)
   | (with_reducible exact oob_Unpack.mono _ _ _)
   | (with_reducible exact page_Build.mono _ _ _)
   | (with_reducible exact page_Read.mono _ _ _)
   | (with_reducible exact strakelaw15_awake.mono _)
   | (with_reducible exact strakelaw15_slim.mono _ _)
   | (with_reducible exact LeO.refl _)
   | (with_reducible exact LeO.none _)
   | (with_reducible refine LeO.ite ?_ ?_)
   | (with_reducible refine LeO.bind ?_ (fun _ => ?_))
   | exact ih0 _ _ _ _ _ _
   | exact ih1 _ _ _ _ _ _
   | exact ih2 _ _ _ _ _ _ _
   | exact oob_Unpack.mono _ _ _
   | exact page_Build.mono _ _ _
   | exact page_Read.mono _ _ _
   | exact strakelaw15_awake.mono _
   | exact strakelaw15_slim.mono _ _
   | exact LeO.none _
   | refine LeO.ite ?_ ?_
   | refine LeO.bind ?_ (fun _ => ?_)
  ·intro y0 y1 y2 y3 y4 y5
   unfold strakelaw15_PagePads.l0
   repeat' first
   | (with_reducible exact ih0 _ _ _ _ _ _)
   | (with_reducible exact ih1 _ _ _ _ _ _)
   | (with_reducible exact ih2 _ _ _ _ _ _ _)
   | (with_reducible exact oob_Unpack.mono _ _ _)
   | (with_reducible exact page_Build.mono _ _ _)
   | (with_reducible exact page_Read.mono _ _ _)
   | (with_reducible exact strakelaw15_awake.mono _)
   | (with_reducible exact strakelaw15_slim.mono _ _)
   | (with_reducible exact LeO.refl _)
   | (with_reducible exact LeO.none _)
   | (with_reducible refine LeO.ite ?_ ?_)
   | (with_reducible refine LeO.bind ?_ (fun _ => ?_))
   | exact ih0 _ _ _ _ _ _
   | exact ih1 _ _ _ _ _ _
   | exact ih2 _ _ _ _ _ _ _
   | exact oob_Unpack.mono _ _ _
   | exact page_Build.mono _ _ _
   | exact page_Read.mono _ _ _
   | exact strakelaw15_awake.mono _
   | exact strakelaw15_slim.mono _ _
   | exact LeO.none _
   | refine LeO.ite ?_ ?_
   | refine LeO.bind ?_ (fun _ => ?_)
  ·intro y0 y1 y2 y3 y4 y5 y6
   unfold strakelaw15_PagePads.j2
   repeat' first
   | (with_reducible exact ih0 _ _ _ _ _ _)
   | (with_reducible exact ih1 _ _ _ _ _ _)
   | (with_reducible exact ih2 _ _ _ _ _ _ _)
   | (with_reducible exact oob_Unpack.mono _ _ _)
   | (with_reducible exact page_Build.mono _ _ _)
   | (with_reducible exact page_Read.mono _ _ _)
   | (with_reducible exact strakelaw15_awake.mono _)
   | (with_reducible exact strakelaw15_slim.mono _ _)
   | (with_reducible exact LeO.refl _)
   | (with_reducible exact LeO.none _)
   | (with_reducible refine LeO.ite ?_ ?_)
   | (with_reducible refine LeO.bind ?_ (fun _ => ?_))
   | exact ih0 _ _ _ _ _ _
   | exact ih1 _ _ _ _ _ _
   | exact ih2 _ _ _ _ _ _ _
   | exact oob_Unpack.mono _ _ _
   | exact page_Build.mono _ _ _
   | exact page_Read.mono _ _ _
   | exact strakelaw15_awake.mono _
   | exact strakelaw15_slim.mono _ _
   | exact LeO.none _
   | refine LeO.ite ?_ ?_
   | refine LeO.bind ?_ (fun _ => ?_)
theorem strakelaw15_PagePads.mono : ∀ a0 a1 k,LeO (strakelaw15_PagePads.f k a0 a1) (strakelaw15_PagePads.f (k + 1) a0 a1) := by
 intro a0 a1 k
 obtain ⟨ih0, ih1, ih2⟩ := strakelaw15_PagePads.mono_l k
 unfold strakelaw15_PagePads.f
 repeat' first
   | (with_reducible exact ih0 _ _ _ _ _ _)
   | (with_reducible exact ih1 _ _ _ _ _ _)
   | (with_reducible exact ih2 _ _ _ _ _ _ _)
   | (with_reducible exact oob_Unpack.mono _ _ _)
   | (with_reducible exact page_Build.mono _ _ _)
   | (with_reducible exact page_Read.mono _ _ _)
   | (with_reducible exact strakelaw15_awake.mono _)
   | (with_reducible exact strakelaw15_slim.mono _ _)
   | (with_reducible exact LeO.refl _)
   | (with_reducible exact LeO.none _)
   | (with_reducible refine LeO.ite ?_ ?_)
   | (with_reducible refine LeO.bind ?_ (fun _ => ?_))
   | exact ih0 _ _ _ _ _ _
   | exact ih1 _ _ _ _ _ _
   | exact ih2 _ _ _ _ _ _ _
   | exact oob_Unpack.mono _ _ _
   | exact page_Build.mono _ _ _
   | exact page_Read.mono _ _ _
   | exact strakelaw15_awake.mono _
   | exact strakelaw15_slim.mono _ _
   | exact LeO.none _
   | refine LeO.ite ?_ ?_
   | refine LeO.bind ?_ (fun _ => ?_)
def strakelaw15_PagePads.T13 : Bool × List (List Nat × List Nat) := (true,[([],[]),([],[]),([0,1],[0,1]),([2],[2]),([],[]),([],[]),([4,5],[4,5]),([6],[6]),([3,7],[3,7]),([8],[8]),([9],[9]),([9],[9]),([],[]),([12,10,8,0,1,2,3,4,5,6,7,8,9,10,12],[10,12]),([11,13,0,1,2,3,4,5,6,7,8,9,10,11,12,13],[11])])
def strakelaw15_PagePads.B13 : List Nat := [0, 0, 3, 7, 0, 0, 48, 112, 255, 511, 1023, 1023, 0, 6143, 16383]
theorem strakelaw15_PagePads.tab13 : rtab .any (opsOf Try.f7 13) = strakelaw15_PagePads.T13 := by kernel_rfl
theorem strakelaw15_PagePads.bits13 : waitsOk strakelaw15_PagePads.T13.2 strakelaw15_PagePads.B13 = true := by kernel_rfl
def strakelaw15_PagePads.T14 : Bool × List (List Nat × List Nat) := (true,[([],[]),([0],[0]),([1],[1]),([2],[2]),([2],[2]),([3,4,2],[2,3,4]),([2,5],[2,5]),([6,2],[6]),([7],[7]),([7],[7]),([8,9,7],[7,8,9]),([10,7],[7,10]),([11,7],[7,11]),([7],[7]),([13,7],[7,13]),([12,14,7],[7,12,14]),([7,15],[7,15])])
def strakelaw15_PagePads.B14 : List Nat := [0,1,3,7,7,31,63,127,255,255,1023,2047,4095,255,8447,32767,65535]
theorem strakelaw15_PagePads.tab14 : rtab .any (opsOf Try.f7 14) = strakelaw15_PagePads.T14 := by kernel_rfl
theorem strakelaw15_PagePads.bits14 : waitsOk strakelaw15_PagePads.T14.2 strakelaw15_PagePads.B14 = true := by kernel_rfl
def strakelaw15_PagePads.T16 : Bool × List (List Nat × List Nat) := (true,[([],[]),([0],[0]),([1],[1]),([1],[1]),([3,1],[1,3]),([2,4,1],[1,2,4]),([1],[1]),([1],[1]),([7,1],[1,7]),([6,8,1],[1,6,8]),([5,9,1,1],[1,5,9]),([10,1],[1,10]),([11,1],[1,11]),([1,12],[1,12]),([13,10,0,1,2,3,4,5,6,7,8,9,10,11,12,13],[13])])
def strakelaw15_PagePads.B16 : List Nat := [0, 1, 3, 3, 11, 31, 3, 3, 131, 451, 1023, 2047, 4095, 8191, 16383]
theorem strakelaw15_PagePads.tab16 : rtab .any (opsOf Try.f7 16) = strakelaw15_PagePads.T16 := by kernel_rfl
theorem strakelaw15_PagePads.bits16 : waitsOk strakelaw15_PagePads.T16.2 strakelaw15_PagePads.B16 = true := by kernel_rfl
set_option maxHeartbeats 8000000 in
set_option maxRecDepth 100000 in
theorem strakelaw15_PagePads.calls (k : Nat) (a0 : Int) (A1 : Option Addr) (c1 : Nat) (l1 : List (S38)) (r : Bool) (w : World) (hr1 : Kd.C k38 w A1 l1.length l1) (hc1 : l1.length ≤ c1) (h : strakelaw15_PagePads.f k a0 l1 = some r) :
  Calls Try.prog 7 #[.int .i64 a0,.slice A1 l1.length c1] w fun e w' => e = .returned (.bool r) ∧ Below w.heap.size w w' := by
 have hu40 := Try.underlying40
 have HR1 := Aside0.mk hr1
 have HC1 := Aside0.mk hc1
 clear hr1 hc1
 have HB := Aside0.mk (Below.refl w.heap.size w)
 have H : ((strakelaw15_awake.f k).bind fun t410 => ((strakelaw15_slim.f k l1).bind fun t411 => (if t411 = true then ((page_Build.f k a0 l1).bind fun bt412 => (if bt412.2.2 = 0 then (if (bt412.1.length : Int) = a0 then (strakelaw15_PagePads.j0 k a0 l1 t410 bt412.1 bt412.2.1 ((bt412.2.1.length : Int) != a0)) else (strakelaw15_PagePads.j0 k a0 l1 t410 bt412.1 bt412.2.1 true)) else (some t410))) else (some t410)))) = some r := h
 clear h
 replace H := Option.bind_eq_some_iff.mp H
 obtain ⟨t410, A30, H⟩ := H
 replace H : ((strakelaw15_slim.f k l1).bind fun t411 => (if t411 = true then ((page_Build.f k a0 l1).bind fun bt412 => (if bt412.2.2 = 0 then (if (bt412.1.length : Int) = a0 then (strakelaw15_PagePads.j0 k a0 l1 t410 bt412.1 bt412.2.1 ((bt412.2.1.length : Int) != a0)) else (strakelaw15_PagePads.j0 k a0 l1 t410 bt412.1 bt412.2.1 true)) else (some t410))) else (some t410))) = some r := H
 have A3 := Aside0.mk A30
 clear A30
 replace H := Option.bind_eq_some_iff.mp H
 obtain ⟨t411, A40, H⟩ := H
 replace H : (if t411 = true then ((page_Build.f k a0 l1).bind fun bt412 => (if bt412.2.2 = 0 then (if (bt412.1.length : Int) = a0 then (strakelaw15_PagePads.j0 k a0 l1 t410 bt412.1 bt412.2.1 ((bt412.2.1.length : Int) != a0)) else (strakelaw15_PagePads.j0 k a0 l1 t410 bt412.1 bt412.2.1 true)) else (some t410))) else (some t410)) = some r := H
 have A4 := Aside0.mk A40
 clear A40
 by_cases c5 : t411 = true
 ·subst c5
  have H1 : ((page_Build.f k a0 l1).bind fun bt412 => (if bt412.2.2 = 0 then (if (bt412.1.length : Int) = a0 then (strakelaw15_PagePads.j0 k a0 l1 t410 bt412.1 bt412.2.1 ((bt412.2.1.length : Int) != a0)) else (strakelaw15_PagePads.j0 k a0 l1 t410 bt412.1 bt412.2.1 true)) else (some t410))) = some r := by rw [if_pos rfl] at H;exact H
  clear H
  have H := H1
  clear H1
  replace H := Option.bind_eq_some_iff.mp H
  obtain ⟨⟨t412, t413, t414⟩, A60, H⟩ := H
  replace H : (if t414 = 0 then (if (t412.length : Int) = a0 then (strakelaw15_PagePads.j0 k a0 l1 t410 t412 t413 ((t413.length : Int) != a0)) else (strakelaw15_PagePads.j0 k a0 l1 t410 t412 t413 true)) else (some t410)) = some r := H
  have A6 := Aside0.mk A60
  clear A60
  by_cases c7 : t414 = 0
  ·rw [if_pos c7] at H
   have c7b0 : (t414 == 0) = true := beq_iff_eq.mpr c7
   have c7b1 : (t414 != 0) = false := bne_eq_false_iff_eq.mpr c7
   clear c7
   have HC8 := Aside0.mk H
   clear H
   go_enter Try.func7, Try.ntmps7
   go_upto_region 8 with (first|((with_reducible refine gate_callee (f := 9) rfl ?_);refine goesL_ (some 13) rfl rfl Try.func9 (by kernel_rfl) rfl #[] rfl (by (try simp only [List.map_toArray,List.map_cons,List.map_nil]);first|done|rfl|(simp only [List.length_drop,List.length_take];rfl)) ?_;(with_reducible refine (strakelaw15_awake.calls k  t410 _ A3.out).mono ?_);rintro e w9 ⟨rfl,hb⟩;refine ⟨_,rfl,?_⟩;have n0_ := Aside0.mk (below_step (by repeat (first|(with_reducible first|exact HB.out|apply below_alloc|apply pw_below_drewN|apply below_drew1)|exact HB.out)) hb);clear HB;have HB := n0_;clear n0_;(try clear hb);(try clear hb2);(try clear hk);(try clear hi))|((with_reducible refine gate_callee (f := 10) rfl ?_);refine goesL_ (some 15) rfl rfl Try.func10 (by kernel_rfl) rfl #[.slice A1 l1.length c1] rfl (by (try simp only [List.map_toArray,List.map_cons,List.map_nil]);first|done|rfl|(simp only [List.length_drop,List.length_take];rfl)) ?_;(with_reducible refine (strakelaw15_slim.calls k _ _ l1 true _ ?side1 ?side2 A4.out).mono ?_);(case side1 => repeat (first|exact (Kd.C_below HR1.out HB.out)|(with_reducible refine Kd.C_alloc ?_ _)|(with_reducible refine Kd.C_drewN ?_ _)|(with_reducible refine Kd.C_drew ?_)));(case side2 => exact HC1.out);rintro e w' ⟨rfl,⟨nd,rfl⟩⟩;refine ⟨_,rfl,?_⟩)|((with_reducible refine gate_callee (f := 11) rfl ?_);refine goesL_ (some 22) rfl rfl Try.func11 (by kernel_rfl) rfl #[.int .i64 a0,.slice A1 l1.length c1] rfl (by (try simp only [List.map_toArray,List.map_cons,List.map_nil]);first|done|rfl|(simp only [List.length_drop,List.length_take];rfl)) ?_;(with_reducible refine (page_Build.calls k a0 _ _ l1 t412 t413 t414 _ ?side1 ?side2 A6.out).mono ?_);(case side1 => repeat (first|exact (Kd.C_below HR1.out (by repeat (first|(with_reducible first|exact HB.out|apply below_alloc|apply pw_below_drewN|apply below_drew1)|exact HB.out)))|(with_reducible refine Kd.C_alloc ?_ _)|(with_reducible refine Kd.C_drewN ?_ _)|(with_reducible refine Kd.C_drew ?_)));(case side2 => exact HC1.out);rintro e w10 ⟨v415,v417,rfl,ho0,ho1,hb⟩;refine ⟨_,rfl,?_⟩;have n0_ := Aside0.mk (Kd.S_lower ho0 (below_size (by repeat (first|(with_reducible first|exact HB.out|apply below_alloc|apply pw_below_drewN|apply below_drew1)|exact HB.out))));have n1_ := Aside0.mk (Kd.S_lower ho1 (below_size (by repeat (first|(with_reducible first|exact HB.out|apply below_alloc|apply pw_below_drewN|apply below_drew1)|exact HB.out))));have n2_ := Aside0.mk (below_step (by repeat (first|(with_reducible first|exact HB.out|apply below_alloc|apply pw_below_drewN|apply below_drew1)|exact HB.out)) hb);clear HB;have HO416 := n0_;have HO418 := n1_;have HB := n2_;clear n0_ n1_ n2_;(try clear hb);(try clear hb2);(try clear hk);(try clear hi);(try clear ho0);(try clear ho1)))
   (try simp only [Act.put, List.setIfInBounds_toArray, List.set_cons_zero, List.set_cons_succ])
   go_cut [38] (fun v38 wc => ∃ (kq : Nat) (x38_7 : Bool),v38 = .bool x38_7 ∧ Aside0 (strakelaw15_PagePads.j0 kq a0 l1 t410 t412 t413 x38_7 = some r) ∧ Aside0 (kq ≤ k) ∧ Aside0 (Kd.S (Kd.slice 5 (Kd.int .u8)) 36 wc w.heap.size (fun k_ => some k_ ≠ (v417 : Value).ownBlock) v415 t412) ∧ Aside0 (Kd.S (Kd.slice 5 (Kd.int .u8)) 36 wc w.heap.size (fun k_ => some k_ ≠ (v415 : Value).ownBlock) v417 t413) ∧ Aside0 (Below w.heap.size w wc))
   case first =>
    have H := HC8.out
    clear HC8
    by_cases c11 : (t412.length : Int) = a0
    ·rw [if_pos c11] at H
     have c11b0 : ((t412.length : Int) == a0) = true := beq_iff_eq.mpr c11
     have c11b1 : ((t412.length : Int) != a0) = false := bne_eq_false_iff_eq.mpr c11
     clear c11
     (first | rw [c11b0] | (simp only [i64_w, i32_w]; rw [c11b0]) | skip)
     have H' := Aside0.mk H
     clear H
     obtain ⟨Ao12, co12, eo12⟩ := Kd.S_slice HO416.out
     subst eo12
     obtain ⟨Ao13, co13, eo13⟩ := Kd.S_slice HO418.out
     subst eo13
     go_wp2
     go_meet
     case rel => exact ⟨_,(((t413.length : Int) != a0)),(by first|rfl|(simp;done)|(simp [*];done)),H',⟨by first|omega|exact Nat.le_refl _⟩,⟨by (with_reducible repeat (first|apply Kd.S_alloc|apply Kd.S_drewN|apply Kd.S_drew));exact HO416.out⟩,⟨by (with_reducible repeat (first|apply Kd.S_alloc|apply Kd.S_drewN|apply Kd.S_drew));exact HO418.out⟩,⟨by repeat (first|(with_reducible first|exact HB.out|apply below_alloc|apply pw_below_drewN|apply below_drew1)|exact HB.out)⟩⟩
    ·rw [if_neg c11] at H
     have c11b0 : ((t412.length : Int) == a0) = false := beq_eq_false_iff_ne.mpr c11
     have c11b1 : ((t412.length : Int) != a0) = true := bne_iff_ne.mpr c11
     (first | rw [c11b0] | (simp only [i64_w, i32_w]; rw [c11b0]) | skip)
     have H' := Aside0.mk H
     clear H
     obtain ⟨Ao14, co14, eo14⟩ := Kd.S_slice HO416.out
     subst eo14
     go_wp2
     go_meet
     case rel => exact ⟨_,(true),(by first|rfl|(simp;done)|(simp [*];done)),H',⟨by first|omega|exact Nat.le_refl _⟩,⟨by (with_reducible repeat (first|apply Kd.S_alloc|apply Kd.S_drewN|apply Kd.S_drew));exact HO416.out⟩,⟨by (with_reducible repeat (first|apply Kd.S_alloc|apply Kd.S_drewN|apply Kd.S_drew));exact HO418.out⟩,⟨by repeat (first|(with_reducible first|exact HB.out|apply below_alloc|apply pw_below_drewN|apply below_drew1)|exact HB.out)⟩⟩
   case rest =>
    clear HC8
    try clear c1
    try clear p2
    try clear c5
    try clear c7
    try clear c7b0
    try clear c7b1
    try clear c9
    try clear c10
    try clear c11
    try clear c11b0
    try clear c11b1
    obtain ⟨kq, x38_7, rfl, HA, HJ7, HO_7, HO_8, HB⟩ := hcut
    cases kq with
    | zero => exact absurd HA.out (by simp [strakelaw15_PagePads.j0])
    | succ kj7 =>
     have H := HA.out
     clear HA
     simp only [strakelaw15_PagePads.j0] at H
     by_cases c15 : x38_7 = true
     ·subst c15
      have H1 : (some false) = some r := by rw [if_pos rfl] at H; exact H
      clear H
      have H := H1
      clear H1
      obtain rfl := Option.some.inj H
      go_wp2
      go_ret
      exact ⟨by first|rfl|(simp [errW_none,errW_some] <;> rfl)|(simp [*,errW_none,errW_some] <;> rfl),by repeat (first|(with_reducible first|exact HB.out|apply below_alloc|apply pw_below_drewN|apply below_drew1)|exact HB.out)⟩
     ·replace c15 := Bool.eq_false_iff.mpr c15
      subst c15
      have H1 : (strakelaw15_PagePads.l0 kj7 a0 l1 t410 t412 t413 (l1.length : Int)) = some r := by rw [if_neg (show ¬ (false = true) by decide)] at H;exact H
      clear H
      have H := H1
      clear H1
      have H' := Aside0.mk H
      clear H
      go_wp2
      go_loopg [10] kj7 (fun kq v10 w' => ∃ (x10_2 : Int),v10 = .int .i64 x10_2 ∧ Aside0 (strakelaw15_PagePads.l0 kq a0 l1 t410 t412 t413 x10_2 = some r) ∧ Aside0 (kq ≤ kj7) ∧ Aside0 (Kd.S (Kd.slice 5 (Kd.int .u8)) 36 w' w.heap.size (fun k_ => some k_ ≠ (v417 : Value).ownBlock) v415 t412) ∧ Aside0 (Kd.S (Kd.slice 5 (Kd.int .u8)) 36 w' w.heap.size (fun k_ => some k_ ≠ (v415 : Value).ownBlock) v417 t413) ∧ Aside0 (Below w.heap.size w w'))
      case atStart => exact ⟨((l1.length : Int)),(by first|rfl|(simp;done)|(simp [*];done)),H',⟨Nat.le_refl _⟩,⟨by (with_reducible repeat (first|apply Kd.S_alloc|apply Kd.S_drewN|apply Kd.S_drew));exact HO_7.out⟩,⟨by (with_reducible repeat (first|apply Kd.S_alloc|apply Kd.S_drewN|apply Kd.S_drew));exact HO_8.out⟩,⟨by repeat (first|(with_reducible first|exact HB.out|apply below_alloc|apply pw_below_drewN|apply below_drew1)|exact HB.out)⟩⟩
      case round =>
       clear H'
       try clear c1
       try clear p2
       try clear c5
       try clear c7
       try clear c7b0
       try clear c7b1
       try clear c9
       try clear c10
       try clear c11
       try clear c11b0
       try clear c11b1
       try clear c15
       try clear p2
       obtain ⟨x10_2, rfl, HA, HK2, HO_7, HO_8, HB⟩ := hrel
       cases gk with
       | zero => exact absurd HA.out (by simp [strakelaw15_PagePads.l0])
       | succ k2 =>
        have H := HA.out
        clear HA
        simp only [strakelaw15_PagePads.l0] at H
        by_cases c16 : x10_2 < a0
        ·rw [if_pos c16] at H
         have c16b0 : decide (x10_2 < a0) = true := decide_eq_true c16
         clear c16
         by_cases c17 : 0 ≤ x10_2
         ·rw [if_pos c17] at H
          have c17b0 : decide (0 ≤ x10_2) = true := decide_eq_true c17
          clear c17
          by_cases c18 : x10_2 < (t413.length : Int)
          ·rw [if_pos c18] at H
           have c18b0 : decide (x10_2 < (t413.length : Int)) = true := decide_eq_true c18
           clear c18
           by_cases c19 : x10_2 < (t412.length : Int)
           ·rw [if_pos c19] at H
            have c19b0 : decide (x10_2 < (t412.length : Int)) = true := decide_eq_true c19
            clear c19
            replace H := Option.bind_eq_some_iff.mp H
            obtain ⟨⟨t421, t422, t423, t424⟩, A200, H⟩ := H
            replace H : (if t424 = 0 then (if (!(t421 == 3) || (!(t422 == 0) || (!(t423 == 0)))) = true then (strakelaw15_PagePads.j2 k2 a0 l1 t410 t412 t413 x10_2 true) else (if 16 ≤ 281474976710656 then (strakelaw15_PagePads.j2 k2 a0 l1 t410 t412 t413 x10_2 ((strOfNums (rd_L2 t412 x10_2)).toList != (strOfNums (List.replicate 16 0)).toList)) else (none))) else (strakelaw15_PagePads.j2 k2 a0 l1 t410 t412 t413 x10_2 true)) = some r := H
            have A20 := Aside0.mk A200
            clear A200
            have HC21 := Aside0.mk H
            clear H
            try go_wp2
            (try (rw [drewN_self wr];generalize hq_ : World.drewN wr _ = wr;have n0_ : Aside0 (Kd.S (Kd.slice 5 (Kd.int .u8)) 36 wr w.heap.size (fun k_ => some k_ ≠ (v417 : Value).ownBlock) v415 t412) := ⟨by rw [← hq_];exact (by (with_reducible repeat (first|apply Kd.S_alloc|apply Kd.S_drewN|apply Kd.S_drew));exact HO_7.out)⟩;have n1_ : Aside0 (Kd.S (Kd.slice 5 (Kd.int .u8)) 36 wr w.heap.size (fun k_ => some k_ ≠ (v415 : Value).ownBlock) v417 t413) := ⟨by rw [← hq_];exact (by (with_reducible repeat (first|apply Kd.S_alloc|apply Kd.S_drewN|apply Kd.S_drew));exact HO_8.out)⟩;have n2_ : Aside0 (Below w.heap.size w wr) := ⟨by rw [← hq_];exact (by repeat (first|(with_reducible first|exact HB.out|apply below_alloc|apply pw_below_drewN|apply below_drew1)|exact HB.out))⟩;clear HO_7 HO_8 HB hq_;have HO_7 := n0_;have HO_8 := n1_;have HB := n2_;clear n0_ n1_ n2_))
            have n0_ := Aside0.mk (Kd.S_drew HO_7.out)
            have n1_ := Aside0.mk (Kd.S_drew HO_8.out)
            have n2_ := Aside0.mk (below_drew1 HB.out)
            clear HO_7
            clear HO_8
            clear HB
            have HO_7 := n0_
            have HO_8 := n1_
            have HB := n2_
            clear n0_ n1_ n2_
            obtain ⟨Ao23, co23, eo23⟩ := Kd.S_slice HO_8.out
            (first|subst eo23|(injection eo23 with f1_ f2_ f3_;have f4_ := f1_.symm;have f5_ := f3_.symm;clear f1_ f2_ f3_;subst f4_;subst f5_))
            have p419 : 0 ≤ (x10_2 : Int) := of_decide_eq_true (by first | (with_reducible assumption) | assumption)
            have q419 : x10_2 < (t413.length : Int) := of_decide_eq_true (by first|(with_reducible assumption)|assumption)
            obtain ⟨ad419,A419_0,c419_0,e419,hx419_0,hl419_0,hi419_0⟩ := at_L2 (Kd.S_reads' HO_8.out).2.2 x10_2 p419 q419
            cases e419
            obtain ⟨ce419,hce419,hMe419,hcc419⟩ := Kd.S_get HO_8.out [] x10_2 p419 (by first|exact q419|exact of_decide_eq_true (by first|(with_reducible assumption)|assumption)|(have e_ := (Kd.S_reads' HO_8.out).1;omega))
            obtain ⟨ve419_0, rfl, ge419_0⟩ := hMe419
            have hv419_0 := hcc419 0 _ rfl
            rw [Nat.add_zero, show ((Kd.slice 5 (Kd.int .u8))).sz = 1 from rfl, Nat.mul_one] at hv419_0
            replace hv419_0 := Option.some.inj (hv419_0.symm.trans hx419_0)
            rw [hv419_0] at ge419_0
            have HL419_0 := Aside0.mk (show Kd.R (Kd.int .u8) 5 _ _ _ _ (rd_L2 t413 x10_2) from ge419_0)
            clear hv419_0 ge419_0
            clear hcc419 hce419
            have HR419_0 := Aside0.mk hi419_0
            have HC419_0 := Aside0.mk hl419_0
            clear hi419_0 hl419_0
            replace p419 := eq_true p419
            replace q419 := eq_true q419
            obtain ⟨Ao24, co24, eo24⟩ := Kd.S_slice HO_7.out
            (first|subst eo24|(injection eo24 with f1_ f2_ f3_;have f4_ := f1_.symm;have f5_ := f3_.symm;clear f1_ f2_ f3_;subst f4_;subst f5_))
            have p420 : 0 ≤ (x10_2 : Int) := of_decide_eq_true (by first | (with_reducible assumption) | assumption)
            have q420 : x10_2 < (t412.length : Int) := of_decide_eq_true (by first|(with_reducible assumption)|assumption)
            obtain ⟨ad420,A420_0,c420_0,e420,hx420_0,hl420_0,hi420_0⟩ := at_L2 (Kd.S_reads' HO_7.out).2.2 x10_2 p420 q420
            cases e420
            obtain ⟨ce420,hce420,hMe420,hcc420⟩ := Kd.S_get HO_7.out [] x10_2 p420 (by first|exact q420|exact of_decide_eq_true (by first|(with_reducible assumption)|assumption)|(have e_ := (Kd.S_reads' HO_7.out).1;omega))
            obtain ⟨ve420_0, rfl, ge420_0⟩ := hMe420
            have hv420_0 := hcc420 0 _ rfl
            rw [Nat.add_zero, show ((Kd.slice 5 (Kd.int .u8))).sz = 1 from rfl, Nat.mul_one] at hv420_0
            replace hv420_0 := Option.some.inj (hv420_0.symm.trans hx420_0)
            rw [hv420_0] at ge420_0
            have HL420_0 := Aside0.mk (show Kd.R (Kd.int .u8) 5 _ _ _ _ (rd_L2 t412 x10_2) from ge420_0)
            clear hv420_0 ge420_0
            clear hcc420 hce420
            have HR420_0 := Aside0.mk hi420_0
            have HC420_0 := Aside0.mk hl420_0
            clear hi420_0 hl420_0
            replace p420 := eq_true p420
            replace q420 := eq_true q420
            refine start_ (n := 15) (S := fun w' => w'.cell? (ad419.add (x10_2).toNat) = some (.slice A419_0 (rd_L2 t413 x10_2).length c419_0) ∧ w'.cell? (ad420.add (x10_2).toNat) = some (.slice A420_0 (rd_L2 t412 x10_2).length c420_0)) (ds := []) #[false,false,false,false,false,false,false,false,false,false,false,false,false,false,false] (by kernel_rfl) rfl rfl ⟨hx419_0,hx420_0⟩ (fun hHeld => ?_);refine with_tabW strakelaw15_PagePads.tab13 strakelaw15_PagePads.bits13 (fun HT_ HW_ => ?_)
            generalize wr.drew = w22 at HO_7 HO_8 HB HL419_0 HL420_0 HR419_0 HR420_0 hx419_0 hx420_0 hHeld ⊢
            refine pure_ (i := 0) (N := some 47) (v := ?_) (a' := ?_) #[true,false,false,false,false,false,false,false,false,false,false,false,false,false,false] rfl rfl (any_of HT_.out (by kernel_rfl)) (fun _ _ _ h => h) (Or.inl ⟨by rfl,?_⟩) ?_ ?_
            rotate_left
            ·intro w'
             go_simp
             with_reducible rfl
            rotate_left
            ·simp only [Act.put, List.setIfInBounds_toArray, List.set_cons_zero, List.set_cons_succ, i64_w, i32_w]
             rfl
            refine pure_ (i := 1) (N := some 48) (v := ?_) (a' := ?_) #[true,true,false,false,false,false,false,false,false,false,false,false,false,false,false] rfl rfl (any_of HT_.out (by kernel_rfl)) (fun _ _ _ h => h) (Or.inl ⟨by rfl,?_⟩) ?_ ?_
            rotate_left
            ·intro w'
             go_simp
             with_reducible rfl
            rotate_left
            ·simp only [Act.put, List.setIfInBounds_toArray, List.set_cons_zero, List.set_cons_succ, i64_w, i32_w]
             rfl
            refine pure_ (i := 2) (N := some 49) (v := ?_) (a' := ?_) #[true,true,true,false,false,false,false,false,false,false,false,false,false,false,false] rfl rfl (any_of HT_.out (by kernel_rfl)) (fun _ _ _ h => h) (Or.inl ⟨by rfl,?_⟩) ?_ ?_
            rotate_left
            ·intro w'
             go_simp
             with_reducible rfl
            rotate_left
            ·simp only [Act.put, List.setIfInBounds_toArray, List.set_cons_zero, List.set_cons_succ, i64_w, i32_w]
             rfl
            refine pure_ (i := 4) (N := some 51) (v := ?_) (a' := ?_) #[true,true,true,false,true,false,false,false,false,false,false,false,false,false,false] rfl rfl (any_of HT_.out (by kernel_rfl)) (fun _ _ _ h => h) (Or.inl ⟨by rfl,?_⟩) ?_ ?_
            rotate_left
            ·intro w'
             go_simp
             with_reducible rfl
            rotate_left
            ·simp only [Act.put, List.setIfInBounds_toArray, List.set_cons_zero, List.set_cons_succ, i64_w, i32_w]
             rfl
            refine pure_ (i := 5) (N := some 52) (v := ?_) (a' := ?_) #[true,true,true,false,true,true,false,false,false,false,false,false,false,false,false] rfl rfl (any_of HT_.out (by kernel_rfl)) (fun _ _ _ h => h) (Or.inl ⟨by rfl,?_⟩) ?_ ?_
            rotate_left
            ·intro w'
             go_simp
             with_reducible rfl
            rotate_left
            ·simp only [Act.put, List.setIfInBounds_toArray, List.set_cons_zero, List.set_cons_succ, i64_w, i32_w]
             rfl
            refine pure_ (i := 6) (N := some 53) (v := ?_) (a' := ?_) #[true,true,true,false,true,true,true,false,false,false,false,false,false,false,false] rfl rfl (any_of HT_.out (by kernel_rfl)) (fun _ _ _ h => h) (Or.inl ⟨by rfl,?_⟩) ?_ ?_
            rotate_left
            ·intro w'
             go_simp
             with_reducible rfl
            rotate_left
            ·simp only [Act.put, List.setIfInBounds_toArray, List.set_cons_zero, List.set_cons_succ, i64_w, i32_w]
             rfl
            refine take_ (i := 3) (N := some 50) (v := ?_) (a' := ?_) #[true,true,true,true,true,true,true,false,false,false,false,false,false,false,false] rfl rfl (take_ofW HT_.out HW_.out (by kernel_rfl)) (fun _ _ _ h => h) (Or.inl ⟨by rfl,?_⟩) hHeld ?_ ?_
            rotate_left
            ·rintro w' ⟨s0, s1⟩
             go_simp
             with_reducible rfl
            rotate_left
            ·simp only [Act.put, List.setIfInBounds_toArray, List.set_cons_zero, List.set_cons_succ, i64_w, i32_w]
             rfl
            refine take_ (i := 7) (N := some 54) (v := ?_) (a' := ?_) #[true,true,true,true,true,true,true,true,false,false,false,false,false,false,false] rfl rfl (take_ofW HT_.out HW_.out (by kernel_rfl)) (fun _ _ _ h => h) (Or.inl ⟨by rfl,?_⟩) hHeld ?_ ?_
            rotate_left
            ·rintro w' ⟨s0, s1⟩
             go_simp
             with_reducible rfl
            rotate_left
            ·simp only [Act.put, List.setIfInBounds_toArray, List.set_cons_zero, List.set_cons_succ, i64_w, i32_w]
             rfl
            refine join_ (σ := Nat) 2 #[true,true,true,true,true,true,true,true,true,true,true,true,true,false,false] (fun s_ => [(55,.tuple #[.agg #[.int .i64 t421,.int .i64 t422,.int .i64 t423],.int .i64 t424]),(11,.pointer (some ⟨s_,0,none⟩)),(46,.tuple #[.agg #[.int .i64 t421,.int .i64 t422,.int .i64 t423],.int .i64 t424]),(56,.agg #[.int .i64 t421,.int .i64 t422,.int .i64 t423]),(57,.int .i64 t424)]) (fun s_ w' => (w'.cell? (ad419.add (x10_2).toNat) = some (.slice A419_0 (rd_L2 t413 x10_2).length c419_0) ∧ w'.cell? (ad420.add (x10_2).toNat) = some (.slice A420_0 (rd_L2 t412 x10_2).length c420_0)) ∧ (Kd.R (Kd.int .u8) 5 w' w.heap.size (fun k_ => some k_ ≠ (.slice (some ad420) t412.length co24 : Value).ownBlock ∧ some k_ ≠ (.slice (some ad419) t413.length co23 : Value).ownBlock) (.slice A419_0 (rd_L2 t413 x10_2).length c419_0) (rd_L2 t413 x10_2)) ∧ (Kd.R (Kd.int .u8) 5 w' w.heap.size (fun k_ => some k_ ≠ (.slice (some ad420) t412.length co24 : Value).ownBlock ∧ some k_ ≠ (.slice (some ad419) t413.length co23 : Value).ownBlock) (.slice A420_0 (rd_L2 t412 x10_2).length c420_0) (rd_L2 t412 x10_2)) ∧ (Kd.S (Kd.slice 5 (Kd.int .u8)) 36 w' w.heap.size (fun k_ => some k_ ≠ (.slice (some ad419) t413.length co23 : Value).ownBlock) (.slice (some ad420) t412.length co24) t412) ∧ (Kd.S (Kd.slice 5 (Kd.int .u8)) 36 w' w.heap.size (fun k_ => some k_ ≠ (.slice (some ad420) t412.length co24 : Value).ownBlock) (.slice (some ad419) t413.length co23) t413) ∧ (w'.heap[s_]? = some (.cells #[.int .i64 0,.int .i64 0,.int .i64 0] 40 (0,0))) ∧ (w.heap.size ≤ s_) ∧ (w.heap.size ≤ s_) ∧ (Below w.heap.size w w')) ?_ ?_
            rotate_left
            ·intro hCont
             refine two_ (i := 8) (j := 12) (Ni := some 55) (Nj := some 11) #[true,true,true,true,true,true,true,true,true,false,false,false,false,false,false] #[true,true,true,true,true,true,true,true,false,false,false,false,true,false,false] rfl rfl rfl rfl (two_of HT_.out (by kernel_rfl)) (by decide) (by decide) (fun K hK => ?_) (fun K hK => ?_)
             ·skip
              refine goes_ Try.func18 (by kernel_rfl) rfl #[.slice A419_0 (rd_L2 t413 x10_2).length c419_0,.slice A420_0 (rd_L2 t412 x10_2).length c420_0] (by rfl) rfl rfl (by (try simp only [List.map_toArray,List.map_cons,List.map_nil]);first|done|rfl|(simp only [List.length_drop,List.length_take];rfl)) ?_
              with_reducible refine (oob_Unpack.calls k2 _ _ (rd_L2 t413 x10_2) _ _ (rd_L2 t412 x10_2) t421 t422 t423 t424 _ ?side1 ?side2 ?side3 ?side4 A20.out).mono ?_
              (case side1 => repeat (first|exact (by repeat (first|(with_reducible exact HR419_0.out)|(with_reducible refine Kd.C_alloc ?_ _)|(with_reducible refine Kd.C_drewN ?_ _)|(with_reducible refine Kd.C_drew ?_)|exact HR419_0.out))|(with_reducible refine Kd.C_alloc ?_ _)|(with_reducible refine Kd.C_drewN ?_ _)|(with_reducible refine Kd.C_drew ?_)))
              (case side2 => exact HC419_0.out)
              (case side3 => repeat (first|exact (by repeat (first|(with_reducible exact HR420_0.out)|(with_reducible refine Kd.C_alloc ?_ _)|(with_reducible refine Kd.C_drewN ?_ _)|(with_reducible refine Kd.C_drew ?_)|exact HR420_0.out))|(with_reducible refine Kd.C_alloc ?_ _)|(with_reducible refine Kd.C_drewN ?_ _)|(with_reducible refine Kd.C_drew ?_)))
              (case side4 => exact HC420_0.out)
              rintro e w25 ⟨rfl, hb⟩
              have HS0_ := (hb.cell (World.block_lt_of_cell? _ _ (hHeld.1))).trans (hHeld.1)
              have HS1_ := (hb.cell (World.block_lt_of_cell? _ _ (hHeld.2))).trans (hHeld.2)
              refine ⟨_, rfl, ?_⟩
              have n0_ := Aside0.mk (Kd.S_below (by (with_reducible repeat (first|apply Kd.S_alloc|apply Kd.S_drewN|apply Kd.S_drew));exact HO_7.out) hb)
              have n1_ := Aside0.mk (Kd.S_below (by (with_reducible repeat (first|apply Kd.S_alloc|apply Kd.S_drewN|apply Kd.S_drew));exact HO_8.out) hb)
              have n2_ := Aside0.mk (Kd.R_below (by (with_reducible repeat (first|apply Kd.R_alloc|apply Kd.R_drewN|apply Kd.R_drew));exact HL419_0.out) hb)
              have n3_ := Aside0.mk (Kd.R_below (by (with_reducible repeat (first|apply Kd.R_alloc|apply Kd.R_drewN|apply Kd.R_drew));exact HL420_0.out) hb)
              have n4_ := Aside0.mk (Kd.C_below (by repeat (first|(with_reducible exact HR419_0.out)|(with_reducible refine Kd.C_alloc ?_ _)|(with_reducible refine Kd.C_drewN ?_ _)|(with_reducible refine Kd.C_drew ?_)|exact HR419_0.out)) hb)
              have n5_ := Aside0.mk (Kd.C_below (by repeat (first|(with_reducible exact HR420_0.out)|(with_reducible refine Kd.C_alloc ?_ _)|(with_reducible refine Kd.C_drewN ?_ _)|(with_reducible refine Kd.C_drew ?_)|exact HR420_0.out)) hb)
              have n6_ := Aside0.mk (below_step (by repeat (first|(with_reducible first|exact HB.out|apply below_alloc|apply pw_below_drewN|apply below_drew1)|exact HB.out)) hb)
              clear HO_7
              clear HO_8
              clear HL419_0
              clear HL420_0
              clear HR419_0
              clear HR420_0
              clear HB
              have HO_7 := n0_
              have HO_8 := n1_
              have HL419_0 := n2_
              have HL420_0 := n3_
              have HR419_0 := n4_
              have HR420_0 := n5_
              have HB := n6_
              clear n0_ n1_ n2_ n3_ n4_ n5_ n6_
              (try clear hb)
              (try clear hb2)
              (try clear hk)
              (try clear hi)
              refine hK.out _ _ ⟨HS0_, HS1_⟩ (fun hHeld => ?_)
              clear hK K
              refine norm_ (a' := ?_) ?_ ?_
              rotate_left
              ·show Act.put _ (some 55) _ = _
               simp only [Act.put, List.setIfInBounds_toArray, List.set_cons_zero, List.set_cons_succ, i64_w, i32_w]
               rfl
              refine pure_ (i := 9) (N := some 46) (v := ?_) (a' := ?_) #[true,true,true,true,true,true,true,true,true,true,false,false,false,false,false] rfl rfl (any_of HT_.out (by kernel_rfl)) (fun _ _ _ h => h) (Or.inl ⟨by rfl,?_⟩) ?_ ?_
              rotate_left
              ·intro w'
               go_simp
               with_reducible rfl
              rotate_left
              ·simp only [Act.put, List.setIfInBounds_toArray, List.set_cons_zero, List.set_cons_succ, i64_w, i32_w]
               rfl
              refine pure_ (i := 10) (N := some 56) (v := ?_) (a' := ?_) #[true,true,true,true,true,true,true,true,true,true,true,false,false,false,false] rfl rfl (any_of HT_.out (by kernel_rfl)) (fun _ _ _ h => h) (Or.inl ⟨by rfl,?_⟩) ?_ ?_
              rotate_left
              ·intro w'
               go_simp
               with_reducible rfl
              rotate_left
              ·simp only [Act.put, List.setIfInBounds_toArray, List.set_cons_zero, List.set_cons_succ, i64_w, i32_w]
               rfl
              refine pure_ (i := 11) (N := some 57) (v := ?_) (a' := ?_) #[true,true,true,true,true,true,true,true,true,true,true,true,false,false,false] rfl rfl (any_of HT_.out (by kernel_rfl)) (fun _ _ _ h => h) (Or.inl ⟨by rfl,?_⟩) ?_ ?_
              rotate_left
              ·intro w'
               go_simp
               with_reducible rfl
              rotate_left
              ·simp only [Act.put, List.setIfInBounds_toArray, List.set_cons_zero, List.set_cons_succ, i64_w, i32_w]
               rfl
              refine one_ (i := 12) (N := some 11) #[true,true,true,true,true,true,true,true,true,true,true,true,true,false,false] rfl rfl (one_of HT_.out (by kernel_rfl)) (by decide) (fun K hK => ?_)
              refine box_step ?hg (N := 11) ?hd (cs := #[.int .i64 0,.int .i64 0,.int .i64 0]) (t := 40) ?hr ?_;(case hd => rfl);(case hg => rfl);(case hr => first|(go_simp;done)|(go_simp;rfl))
              intro gb425 hg w26 hbox hb
              have HS0_ := (hb.cell (World.block_lt_of_cell? _ _ (hHeld.1))).trans (hHeld.1)
              have HS1_ := (hb.cell (World.block_lt_of_cell? _ _ (hHeld.2))).trans (hHeld.2)
              have n0_ := Aside0.mk (Kd.S_below (by (with_reducible repeat (first|apply Kd.S_alloc|apply Kd.S_drewN|apply Kd.S_drew));exact HO_7.out) hb)
              have n1_ := Aside0.mk (Kd.S_below (by (with_reducible repeat (first|apply Kd.S_alloc|apply Kd.S_drewN|apply Kd.S_drew));exact HO_8.out) hb)
              have n2_ := Aside0.mk (Kd.R_below (by (with_reducible repeat (first|apply Kd.R_alloc|apply Kd.R_drewN|apply Kd.R_drew));exact HL419_0.out) hb)
              have n3_ := Aside0.mk (Kd.R_below (by (with_reducible repeat (first|apply Kd.R_alloc|apply Kd.R_drewN|apply Kd.R_drew));exact HL420_0.out) hb)
              have n4_ := Aside0.mk (Kd.C_below (by repeat (first|(with_reducible exact HR419_0.out)|(with_reducible refine Kd.C_alloc ?_ _)|(with_reducible refine Kd.C_drewN ?_ _)|(with_reducible refine Kd.C_drew ?_)|exact HR419_0.out)) hb)
              have n5_ := Aside0.mk (Kd.C_below (by repeat (first|(with_reducible exact HR420_0.out)|(with_reducible refine Kd.C_alloc ?_ _)|(with_reducible refine Kd.C_drewN ?_ _)|(with_reducible refine Kd.C_drew ?_)|exact HR420_0.out)) hb)
              have n6_ := Aside0.mk (below_step (by repeat (first|(with_reducible first|exact HB.out|apply below_alloc|apply pw_below_drewN|apply below_drew1)|exact HB.out)) hb)
              have n7_ := Aside0.mk (hbox)
              have n8_ := Aside0.mk ((by rw [hg];exact (below_size (by repeat (first|(with_reducible first|exact HB.out|apply below_alloc|apply pw_below_drewN|apply below_drew1)|exact HB.out))) : w.heap.size ≤ gb425))
              have n9_ := Aside0.mk ((by rw [hg];exact (below_size (by repeat (first|(with_reducible first|exact HB.out|apply below_alloc|apply pw_below_drewN|apply below_drew1)|exact HB.out))) : w.heap.size ≤ gb425))
              clear HO_7
              clear HO_8
              clear HL419_0
              clear HL420_0
              clear HR419_0
              clear HR420_0
              clear HB
              have HO_7 := n0_
              have HO_8 := n1_
              have HL419_0 := n2_
              have HL420_0 := n3_
              have HR419_0 := n4_
              have HR420_0 := n5_
              have HB := n6_
              have BK425 := n7_
              have GW425 := n8_
              have GE425 := n9_
              clear n0_ n1_ n2_ n3_ n4_ n5_ n6_ n7_ n8_ n9_
              clear hb hbox hg
              refine hK.out _ _ ⟨HS0_, HS1_⟩ (fun hHeld => ?_)
              clear hK K
              refine norm_ (a' := ?_) ?_ ?_
              rotate_left
              ·show Act.put _ (some 11) _ = _
               simp only [Act.put, List.setIfInBounds_toArray, List.set_cons_zero, List.set_cons_succ, i64_w, i32_w]
               rfl
              exact norm_ (by simp only [putAll,Act.put,List.setIfInBounds_toArray,List.set_cons_zero,List.set_cons_succ]) (hCont (gb425) _ ⟨hHeld,(by (with_reducible repeat (first|apply Kd.R_alloc|apply Kd.R_drewN|apply Kd.R_drew));exact HL419_0.out),(by (with_reducible repeat (first|apply Kd.R_alloc|apply Kd.R_drewN|apply Kd.R_drew));exact Kd.R_mono HL420_0.out (fun _ hk => ⟨hk.2,hk.1⟩)),(by (with_reducible repeat (first|apply Kd.S_alloc|apply Kd.S_drewN|apply Kd.S_drew));exact HO_7.out),(by (with_reducible repeat (first|apply Kd.S_alloc|apply Kd.S_drewN|apply Kd.S_drew));exact HO_8.out),(by (with_reducible repeat (first|refine blk_drewN ?_ _|refine blk_drew ?_|refine blk_alloc ?_ _));exact BK425.out),GW425.out,GE425.out,(by repeat (first|(with_reducible first|exact HB.out|apply below_alloc|apply pw_below_drewN|apply below_drew1|refine below_set ?_ GE425.out)|exact HB.out))⟩)
             ·skip
              refine box_step ?hg (N := 11) ?hd (cs := #[.int .i64 0,.int .i64 0,.int .i64 0]) (t := 40) ?hr ?_;(case hd => rfl);(case hg => rfl);(case hr => first|(go_simp;done)|(go_simp;rfl))
              intro gb425 hg w25 hbox hb
              have HS0_ := (hb.cell (World.block_lt_of_cell? _ _ (hHeld.1))).trans (hHeld.1)
              have HS1_ := (hb.cell (World.block_lt_of_cell? _ _ (hHeld.2))).trans (hHeld.2)
              have n0_ := Aside0.mk (Kd.S_below (by (with_reducible repeat (first|apply Kd.S_alloc|apply Kd.S_drewN|apply Kd.S_drew));exact HO_7.out) hb)
              have n1_ := Aside0.mk (Kd.S_below (by (with_reducible repeat (first|apply Kd.S_alloc|apply Kd.S_drewN|apply Kd.S_drew));exact HO_8.out) hb)
              have n2_ := Aside0.mk (Kd.R_below (by (with_reducible repeat (first|apply Kd.R_alloc|apply Kd.R_drewN|apply Kd.R_drew));exact HL419_0.out) hb)
              have n3_ := Aside0.mk (Kd.R_below (by (with_reducible repeat (first|apply Kd.R_alloc|apply Kd.R_drewN|apply Kd.R_drew));exact HL420_0.out) hb)
              have n4_ := Aside0.mk (Kd.C_below (by repeat (first|(with_reducible exact HR419_0.out)|(with_reducible refine Kd.C_alloc ?_ _)|(with_reducible refine Kd.C_drewN ?_ _)|(with_reducible refine Kd.C_drew ?_)|exact HR419_0.out)) hb)
              have n5_ := Aside0.mk (Kd.C_below (by repeat (first|(with_reducible exact HR420_0.out)|(with_reducible refine Kd.C_alloc ?_ _)|(with_reducible refine Kd.C_drewN ?_ _)|(with_reducible refine Kd.C_drew ?_)|exact HR420_0.out)) hb)
              have n6_ := Aside0.mk (below_step (by repeat (first|(with_reducible first|exact HB.out|apply below_alloc|apply pw_below_drewN|apply below_drew1)|exact HB.out)) hb)
              have n7_ := Aside0.mk (hbox)
              have n8_ := Aside0.mk ((by rw [hg];exact (below_size (by repeat (first|(with_reducible first|exact HB.out|apply below_alloc|apply pw_below_drewN|apply below_drew1)|exact HB.out))) : w.heap.size ≤ gb425))
              have n9_ := Aside0.mk ((by rw [hg];exact (below_size (by repeat (first|(with_reducible first|exact HB.out|apply below_alloc|apply pw_below_drewN|apply below_drew1)|exact HB.out))) : w.heap.size ≤ gb425))
              clear HO_7
              clear HO_8
              clear HL419_0
              clear HL420_0
              clear HR419_0
              clear HR420_0
              clear HB
              have HO_7 := n0_
              have HO_8 := n1_
              have HL419_0 := n2_
              have HL420_0 := n3_
              have HR419_0 := n4_
              have HR420_0 := n5_
              have HB := n6_
              have BK425 := n7_
              have GW425 := n8_
              have GE425 := n9_
              clear n0_ n1_ n2_ n3_ n4_ n5_ n6_ n7_ n8_ n9_
              clear hb hbox hg
              refine hK.out _ _ ⟨HS0_, HS1_⟩ (fun hHeld => ?_)
              clear hK K
              refine norm_ (a' := ?_) ?_ ?_
              rotate_left
              ·show Act.put _ (some 11) _ = _
               simp only [Act.put, List.setIfInBounds_toArray, List.set_cons_zero, List.set_cons_succ, i64_w, i32_w]
               rfl
              refine one_ (i := 8) (N := some 55) #[true,true,true,true,true,true,true,true,true,false,false,false,true,false,false] rfl rfl (one_of HT_.out (by kernel_rfl)) (by decide) (fun K hK => ?_)
              refine goes_ Try.func18 (by kernel_rfl) rfl #[.slice A419_0 (rd_L2 t413 x10_2).length c419_0,.slice A420_0 (rd_L2 t412 x10_2).length c420_0] (by rfl) rfl rfl (by (try simp only [List.map_toArray,List.map_cons,List.map_nil]);first|done|rfl|(simp only [List.length_drop,List.length_take];rfl)) ?_
              with_reducible refine (oob_Unpack.calls k2 _ _ (rd_L2 t413 x10_2) _ _ (rd_L2 t412 x10_2) t421 t422 t423 t424 _ ?side1 ?side2 ?side3 ?side4 A20.out).mono ?_
              (case side1 => repeat (first|exact (by repeat (first|(with_reducible exact HR419_0.out)|(with_reducible refine Kd.C_alloc ?_ _)|(with_reducible refine Kd.C_drewN ?_ _)|(with_reducible refine Kd.C_drew ?_)|exact HR419_0.out))|(with_reducible refine Kd.C_alloc ?_ _)|(with_reducible refine Kd.C_drewN ?_ _)|(with_reducible refine Kd.C_drew ?_)))
              (case side2 => exact HC419_0.out)
              (case side3 => repeat (first|exact (by repeat (first|(with_reducible exact HR420_0.out)|(with_reducible refine Kd.C_alloc ?_ _)|(with_reducible refine Kd.C_drewN ?_ _)|(with_reducible refine Kd.C_drew ?_)|exact HR420_0.out))|(with_reducible refine Kd.C_alloc ?_ _)|(with_reducible refine Kd.C_drewN ?_ _)|(with_reducible refine Kd.C_drew ?_)))
              (case side4 => exact HC420_0.out)
              rintro e w26 ⟨rfl, hb⟩
              have HS0_ := (hb.cell (World.block_lt_of_cell? _ _ (hHeld.1))).trans (hHeld.1)
              have HS1_ := (hb.cell (World.block_lt_of_cell? _ _ (hHeld.2))).trans (hHeld.2)
              refine ⟨_, rfl, ?_⟩
              have n0_ := Aside0.mk (Kd.S_below (by (with_reducible repeat (first|apply Kd.S_alloc|apply Kd.S_drewN|apply Kd.S_drew));exact HO_7.out) hb)
              have n1_ := Aside0.mk (Kd.S_below (by (with_reducible repeat (first|apply Kd.S_alloc|apply Kd.S_drewN|apply Kd.S_drew));exact HO_8.out) hb)
              have n2_ := Aside0.mk (Kd.R_below (by (with_reducible repeat (first|apply Kd.R_alloc|apply Kd.R_drewN|apply Kd.R_drew));exact HL419_0.out) hb)
              have n3_ := Aside0.mk (Kd.R_below (by (with_reducible repeat (first|apply Kd.R_alloc|apply Kd.R_drewN|apply Kd.R_drew));exact HL420_0.out) hb)
              have n4_ := Aside0.mk (Kd.C_below (by repeat (first|(with_reducible exact HR419_0.out)|(with_reducible refine Kd.C_alloc ?_ _)|(with_reducible refine Kd.C_drewN ?_ _)|(with_reducible refine Kd.C_drew ?_)|exact HR419_0.out)) hb)
              have n5_ := Aside0.mk (Kd.C_below (by repeat (first|(with_reducible exact HR420_0.out)|(with_reducible refine Kd.C_alloc ?_ _)|(with_reducible refine Kd.C_drewN ?_ _)|(with_reducible refine Kd.C_drew ?_)|exact HR420_0.out)) hb)
              have n6_ := Aside0.mk (blk_below (g := gb425) (o := .cells #[.int .i64 0,.int .i64 0,.int .i64 0] 40 (0,0)) (by (with_reducible repeat (first|refine blk_drewN ?_ _|refine blk_drew ?_|refine blk_alloc ?_ _));exact BK425.out) hb)
              have n7_ := Aside0.mk (below_step (by repeat (first|(with_reducible first|exact HB.out|apply below_alloc|apply pw_below_drewN|apply below_drew1|refine below_set ?_ GE425.out)|exact HB.out)) hb)
              clear HO_7
              clear HO_8
              clear HL419_0
              clear HL420_0
              clear HR419_0
              clear HR420_0
              clear BK425
              clear HB
              have HO_7 := n0_
              have HO_8 := n1_
              have HL419_0 := n2_
              have HL420_0 := n3_
              have HR419_0 := n4_
              have HR420_0 := n5_
              have BK425 := n6_
              have HB := n7_
              clear n0_ n1_ n2_ n3_ n4_ n5_ n6_ n7_
              (try clear hb)
              (try clear hb2)
              (try clear hk)
              (try clear hi)
              refine hK.out _ _ ⟨HS0_, HS1_⟩ (fun hHeld => ?_)
              clear hK K
              refine norm_ (a' := ?_) ?_ ?_
              rotate_left
              ·show Act.put _ (some 55) _ = _
               simp only [Act.put, List.setIfInBounds_toArray, List.set_cons_zero, List.set_cons_succ, i64_w, i32_w]
               rfl
              refine pure_ (i := 9) (N := some 46) (v := ?_) (a' := ?_) #[true,true,true,true,true,true,true,true,true,true,false,false,true,false,false] rfl rfl (any_of HT_.out (by kernel_rfl)) (fun _ _ _ h => h) (Or.inl ⟨by rfl,?_⟩) ?_ ?_
              rotate_left
              ·intro w'
               go_simp
               with_reducible rfl
              rotate_left
              ·simp only [Act.put, List.setIfInBounds_toArray, List.set_cons_zero, List.set_cons_succ, i64_w, i32_w]
               rfl
              refine pure_ (i := 10) (N := some 56) (v := ?_) (a' := ?_) #[true,true,true,true,true,true,true,true,true,true,true,false,true,false,false] rfl rfl (any_of HT_.out (by kernel_rfl)) (fun _ _ _ h => h) (Or.inl ⟨by rfl,?_⟩) ?_ ?_
              rotate_left
              ·intro w'
               go_simp
               with_reducible rfl
              rotate_left
              ·simp only [Act.put, List.setIfInBounds_toArray, List.set_cons_zero, List.set_cons_succ, i64_w, i32_w]
               rfl
              refine pure_ (i := 11) (N := some 57) (v := ?_) (a' := ?_) #[true,true,true,true,true,true,true,true,true,true,true,true,true,false,false] rfl rfl (any_of HT_.out (by kernel_rfl)) (fun _ _ _ h => h) (Or.inl ⟨by rfl,?_⟩) ?_ ?_
              rotate_left
              ·intro w'
               go_simp
               with_reducible rfl
              rotate_left
              ·simp only [Act.put, List.setIfInBounds_toArray, List.set_cons_zero, List.set_cons_succ, i64_w, i32_w]
               rfl
              exact norm_ (by simp only [putAll,Act.put,List.setIfInBounds_toArray,List.set_cons_zero,List.set_cons_succ]) (hCont (gb425) _ ⟨hHeld,(by (with_reducible repeat (first|apply Kd.R_alloc|apply Kd.R_drewN|apply Kd.R_drew));exact HL419_0.out),(by (with_reducible repeat (first|apply Kd.R_alloc|apply Kd.R_drewN|apply Kd.R_drew));exact Kd.R_mono HL420_0.out (fun _ hk => ⟨hk.2,hk.1⟩)),(by (with_reducible repeat (first|apply Kd.S_alloc|apply Kd.S_drewN|apply Kd.S_drew));exact HO_7.out),(by (with_reducible repeat (first|apply Kd.S_alloc|apply Kd.S_drewN|apply Kd.S_drew));exact HO_8.out),(by (with_reducible repeat (first|refine blk_drewN ?_ _|refine blk_drew ?_|refine blk_alloc ?_ _));exact BK425.out),GW425.out,GE425.out,(by repeat (first|(with_reducible first|exact HB.out|apply below_alloc|apply pw_below_drewN|apply below_drew1|refine below_set ?_ GE425.out)|exact HB.out))⟩)
            rintro gb425 w27 ⟨hS_, h0_, h1_, h2_, h3_, h4_, h5_, h6_, h7_⟩
            have n0_ : Aside0 (Kd.R (Kd.int .u8) 5 w27 w.heap.size (fun k_ => some k_ ≠ (.slice (some ad420) t412.length co24 : Value).ownBlock ∧ some k_ ≠ (.slice (some ad419) t413.length co23 : Value).ownBlock) (.slice A419_0 (rd_L2 t413 x10_2).length c419_0) (rd_L2 t413 x10_2)) := ⟨h0_⟩
            have n1_ : Aside0 (Kd.R (Kd.int .u8) 5 w27 w.heap.size (fun k_ => some k_ ≠ (.slice (some ad420) t412.length co24 : Value).ownBlock ∧ some k_ ≠ (.slice (some ad419) t413.length co23 : Value).ownBlock) (.slice A420_0 (rd_L2 t412 x10_2).length c420_0) (rd_L2 t412 x10_2)) := ⟨h1_⟩
            have n2_ : Aside0 (Kd.S (Kd.slice 5 (Kd.int .u8)) 36 w27 w.heap.size (fun k_ => some k_ ≠ (.slice (some ad419) t413.length co23 : Value).ownBlock) (.slice (some ad420) t412.length co24) t412) := ⟨h2_⟩
            have n3_ : Aside0 (Kd.S (Kd.slice 5 (Kd.int .u8)) 36 w27 w.heap.size (fun k_ => some k_ ≠ (.slice (some ad420) t412.length co24 : Value).ownBlock) (.slice (some ad419) t413.length co23) t413) := ⟨h3_⟩
            have n4_ : Aside0 (w27.heap[gb425]? = some (.cells #[.int .i64 0,.int .i64 0,.int .i64 0] 40 (0,0))) := ⟨h4_⟩
            have n5_ : Aside0 (w.heap.size ≤ gb425) := ⟨h5_⟩
            have n6_ : Aside0 (w.heap.size ≤ gb425) := ⟨h6_⟩
            have n7_ : Aside0 (Below w.heap.size w w27) := ⟨h7_⟩
            clear HO_7
            clear HO_8
            clear HB
            clear h0_ h1_ h2_ h3_ h4_ h5_ h6_ h7_
            have HL419_0 := n0_
            have HL420_0 := n1_
            have HO_7 := n2_
            have HO_8 := n3_
            have BK425 := n4_
            have GW425 := n5_
            have GE425 := n6_
            have HB := n7_
            clear n0_ n1_ n2_ n3_ n4_ n5_ n6_ n7_
            have hHeld : w27.cell? (ad419.add (x10_2).toNat) = some (.slice A419_0 (rd_L2 t413 x10_2).length c419_0) ∧ w27.cell? (ad420.add (x10_2).toNat) = some (.slice A420_0 (rd_L2 t412 x10_2).length c420_0) := hS_
            refine norm_ (a' := ?_) ?_ ?_
            rotate_left
            ·simp only [putAll, Act.put, List.setIfInBounds_toArray, List.set_cons_zero, List.set_cons_succ]
             rfl
            refine one_ (i := 13) (N := none) #[true,true,true,true,true,true,true,true,true,true,true,true,true,true,false] rfl rfl (one_of HT_.out (by kernel_rfl)) (by decide) (fun K hK => ?_)
            have hs28 : w27.cell? ⟨gb425, 0, none⟩ = some (.int .i64 0) := (blk_cell BK425.out 0).trans rfl
            have hfs28 := blk_frozen BK425.out 0
            have hs29 : w27.cell? ⟨gb425, 1, none⟩ = some (.int .i64 0) := (blk_cell BK425.out 1).trans rfl
            have hfs29 := blk_frozen BK425.out 1
            have hs30 : w27.cell? ⟨gb425, 2, none⟩ = some (.int .i64 0) := (blk_cell BK425.out 2).trans rfl
            have hfs30 := blk_frozen BK425.out 2
            refine skip_ (w1 := ?_) (by rfl) rfl ?_ ?_
            rotate_left
            ·go_simp
             rfl
            refine hK.out _ _ ⟨((cell_far (p := ⟨gb425,_,none⟩) (by first|exact Kd.own_blk (Kd.S_ne HO_8.out BK425.out (by decide))|(rw [add_block];exact Kd.own_blk (Kd.S_ne HO_8.out BK425.out (by decide)))|(show (Addr.add _ _).block ≠ _;rw [add_block];exact Kd.own_blk (Kd.S_ne HO_8.out BK425.out (by decide)))|(dsimp only;exact Kd.own_blk (Kd.S_ne HO_8.out BK425.out (by decide)))) _).trans (((cell_far (p := ⟨gb425,_,none⟩) (by first|exact Kd.own_blk (Kd.S_ne HO_8.out BK425.out (by decide))|(rw [add_block];exact Kd.own_blk (Kd.S_ne HO_8.out BK425.out (by decide)))|(show (Addr.add _ _).block ≠ _;rw [add_block];exact Kd.own_blk (Kd.S_ne HO_8.out BK425.out (by decide)))|(dsimp only;exact Kd.own_blk (Kd.S_ne HO_8.out BK425.out (by decide)))) _).trans (((cell_far (p := ⟨gb425,_,none⟩) (by first|exact Kd.own_blk (Kd.S_ne HO_8.out BK425.out (by decide))|(rw [add_block];exact Kd.own_blk (Kd.S_ne HO_8.out BK425.out (by decide)))|(show (Addr.add _ _).block ≠ _;rw [add_block];exact Kd.own_blk (Kd.S_ne HO_8.out BK425.out (by decide)))|(dsimp only;exact Kd.own_blk (Kd.S_ne HO_8.out BK425.out (by decide)))) _).trans (hHeld.1)))))),((cell_far (p := ⟨gb425,_,none⟩) (by first|exact Kd.own_blk (Kd.S_ne HO_7.out BK425.out (by decide))|(rw [add_block];exact Kd.own_blk (Kd.S_ne HO_7.out BK425.out (by decide)))|(show (Addr.add _ _).block ≠ _;rw [add_block];exact Kd.own_blk (Kd.S_ne HO_7.out BK425.out (by decide)))|(dsimp only;exact Kd.own_blk (Kd.S_ne HO_7.out BK425.out (by decide)))) _).trans (((cell_far (p := ⟨gb425,_,none⟩) (by first|exact Kd.own_blk (Kd.S_ne HO_7.out BK425.out (by decide))|(rw [add_block];exact Kd.own_blk (Kd.S_ne HO_7.out BK425.out (by decide)))|(show (Addr.add _ _).block ≠ _;rw [add_block];exact Kd.own_blk (Kd.S_ne HO_7.out BK425.out (by decide)))|(dsimp only;exact Kd.own_blk (Kd.S_ne HO_7.out BK425.out (by decide)))) _).trans (((cell_far (p := ⟨gb425,_,none⟩) (by first|exact Kd.own_blk (Kd.S_ne HO_7.out BK425.out (by decide))|(rw [add_block];exact Kd.own_blk (Kd.S_ne HO_7.out BK425.out (by decide)))|(show (Addr.add _ _).block ≠ _;rw [add_block];exact Kd.own_blk (Kd.S_ne HO_7.out BK425.out (by decide)))|(dsimp only;exact Kd.own_blk (Kd.S_ne HO_7.out BK425.out (by decide)))) _).trans (hHeld.2))))))⟩ (fun hHeld => ?_)
            clear hK K
            refine pure_ (i := 14) (N := some 12) (v := ?_) (a' := ?_) #[true,true,true,true,true,true,true,true,true,true,true,true,true,true,true] rfl rfl (any_of HT_.out (by kernel_rfl)) (fun _ _ _ h => h) (Or.inl ⟨by rfl,?_⟩) ?_ ?_
            rotate_left
            ·intro w'
             go_simp
             with_reducible rfl
            rotate_left
            ·simp only [Act.put, List.setIfInBounds_toArray, List.set_cons_zero, List.set_cons_succ, i64_w, i32_w]
             rfl
            refine done_ (done_of HT_.out (by kernel_rfl)) ?_
            go_upto_region 14 with (fail)
            go_cut [74] (fun v74 wc => ∃ (kq : Nat) (x74_20 : Bool),v74 = .bool x74_20 ∧ Aside0 (strakelaw15_PagePads.j2 kq a0 l1 t410 t412 t413 x10_2 x74_20 = some r) ∧ Aside0 (kq ≤ k2) ∧ Aside0 (Kd.S (Kd.slice 5 (Kd.int .u8)) 36 wc w.heap.size (fun k_ => some k_ ≠ ((.slice (some ad419) t413.length co23) : Value).ownBlock) (.slice (some ad420) t412.length co24) t412) ∧ Aside0 (Kd.S (Kd.slice 5 (Kd.int .u8)) 36 wc w.heap.size (fun k_ => some k_ ≠ ((.slice (some ad420) t412.length co24) : Value).ownBlock) (.slice (some ad419) t413.length co23) t413) ∧ Aside0 (wc.heap[gb425]? = some (.cells #[.int .i64 t421,.int .i64 t422,.int .i64 t423] 40 (0,0))) ∧ Aside0 (Below w.heap.size w wc))
            case first =>
             have H := HC21.out
             clear HC21
             by_cases c31 : t424 = 0
             ·rw [if_pos c31] at H
              have c31b0 : (t424 == 0) = true := beq_iff_eq.mpr c31
              have c31b1 : (t424 != 0) = false := bne_eq_false_iff_eq.mpr c31
              clear c31
              (first | rw [c31b0] | (simp only [i64_w, i32_w]; rw [c31b0]) | skip)
              by_cases c32 : (!(t421 == 3) || (!(t422 == 0) || (!(t423 == 0)))) = true
              ·rw [if_pos c32] at H
               have c32b0 : (!(t421 == 3) || (!(t422 == 0) || (!(t423 == 0)))) = true := c32
               clear c32
               have H' := Aside0.mk H
               clear H
               try go_wp2
               have n0_ : Aside0 (Kd.S (Kd.slice 5 (Kd.int .u8)) 36 (((w27.setCell ⟨gb425,0,none⟩ (.int .i64 t421)).setCell ⟨gb425,1,none⟩ (.int .i64 t422)).setCell ⟨gb425,2,none⟩ (.int .i64 t423)) w.heap.size (fun k_ => some k_ ≠ (.slice (some ad419) t413.length co23 : Value).ownBlock) (.slice (some ad420) t412.length co24) t412) := ⟨by (with_reducible repeat (first|apply Kd.S_alloc|apply Kd.S_drewN|apply Kd.S_drew));exact Kd.S_mono (Kd.S_far (p := ⟨gb425,2,none⟩) (Kd.S_far (p := ⟨gb425,1,none⟩) (Kd.S_far (p := ⟨gb425,0,none⟩) (Kd.S_types HO_7.out BK425.out (by decide)) (fun _ hk => hk.2) (.int .i64 t421)) (fun _ hk => hk.2) (.int .i64 t422)) (fun _ hk => hk.2) (.int .i64 t423)) (fun _ hk => hk.1)⟩
               have n1_ : Aside0 (Kd.S (Kd.slice 5 (Kd.int .u8)) 36 (((w27.setCell ⟨gb425,0,none⟩ (.int .i64 t421)).setCell ⟨gb425,1,none⟩ (.int .i64 t422)).setCell ⟨gb425,2,none⟩ (.int .i64 t423)) w.heap.size (fun k_ => some k_ ≠ (.slice (some ad420) t412.length co24 : Value).ownBlock) (.slice (some ad419) t413.length co23) t413) := ⟨by (with_reducible repeat (first|apply Kd.S_alloc|apply Kd.S_drewN|apply Kd.S_drew));exact Kd.S_mono (Kd.S_far (p := ⟨gb425,2,none⟩) (Kd.S_far (p := ⟨gb425,1,none⟩) (Kd.S_far (p := ⟨gb425,0,none⟩) (Kd.S_types HO_8.out BK425.out (by decide)) (fun _ hk => hk.2) (.int .i64 t421)) (fun _ hk => hk.2) (.int .i64 t422)) (fun _ hk => hk.2) (.int .i64 t423)) (fun _ hk => hk.1)⟩
               have n2_ : Aside0 (Kd.R (Kd.int .u8) 5 (((w27.setCell ⟨gb425,0,none⟩ (.int .i64 t421)).setCell ⟨gb425,1,none⟩ (.int .i64 t422)).setCell ⟨gb425,2,none⟩ (.int .i64 t423)) w.heap.size (fun k_ => some k_ ≠ (.slice (some ad420) t412.length co24 : Value).ownBlock ∧ some k_ ≠ (.slice (some ad419) t413.length co23 : Value).ownBlock) (.slice A419_0 (rd_L2 t413 x10_2).length c419_0) (rd_L2 t413 x10_2)) := ⟨by (with_reducible repeat (first|apply Kd.R_alloc|apply Kd.R_drewN|apply Kd.R_drew));exact Kd.R_mono (Kd.R_far (p := ⟨gb425,2,none⟩) (Kd.R_far (p := ⟨gb425,1,none⟩) (Kd.R_far (p := ⟨gb425,0,none⟩) (Kd.R_types HL419_0.out BK425.out (by decide)) (fun _ hk => hk.2) (.int .i64 t421)) (fun _ hk => hk.2) (.int .i64 t422)) (fun _ hk => hk.2) (.int .i64 t423)) (fun _ hk => ⟨hk.1.1,hk.1.2⟩)⟩
               have n3_ : Aside0 (Kd.R (Kd.int .u8) 5 (((w27.setCell ⟨gb425,0,none⟩ (.int .i64 t421)).setCell ⟨gb425,1,none⟩ (.int .i64 t422)).setCell ⟨gb425,2,none⟩ (.int .i64 t423)) w.heap.size (fun k_ => some k_ ≠ (.slice (some ad420) t412.length co24 : Value).ownBlock ∧ some k_ ≠ (.slice (some ad419) t413.length co23 : Value).ownBlock) (.slice A420_0 (rd_L2 t412 x10_2).length c420_0) (rd_L2 t412 x10_2)) := ⟨by (with_reducible repeat (first|apply Kd.R_alloc|apply Kd.R_drewN|apply Kd.R_drew));exact Kd.R_mono (Kd.R_far (p := ⟨gb425,2,none⟩) (Kd.R_far (p := ⟨gb425,1,none⟩) (Kd.R_far (p := ⟨gb425,0,none⟩) (Kd.R_types HL420_0.out BK425.out (by decide)) (fun _ hk => hk.2) (.int .i64 t421)) (fun _ hk => hk.2) (.int .i64 t422)) (fun _ hk => hk.2) (.int .i64 t423)) (fun _ hk => ⟨hk.1.1,hk.1.2⟩)⟩
               have n4_ : Aside0 ((((w27.setCell ⟨gb425,0,none⟩ (.int .i64 t421)).setCell ⟨gb425,1,none⟩ (.int .i64 t422)).setCell ⟨gb425,2,none⟩ (.int .i64 t423)).heap[gb425]? = some (.cells #[.int .i64 t421,.int .i64 t422,.int .i64 t423] 40 (0,0))) := ⟨by (with_reducible repeat (first|refine blk_drewN ?_ _|refine blk_drew ?_|refine blk_alloc ?_ _));refine blk_put (cs := #[.int .i64 t421,.int .i64 t422,.int .i64 0]) ?_ 2 _ rfl;(with_reducible repeat (first|refine blk_drewN ?_ _|refine blk_drew ?_|refine blk_alloc ?_ _));refine blk_put (cs := #[.int .i64 t421,.int .i64 0,.int .i64 0]) ?_ 1 _ rfl;(with_reducible repeat (first|refine blk_drewN ?_ _|refine blk_drew ?_|refine blk_alloc ?_ _));refine blk_put (cs := #[.int .i64 0,.int .i64 0,.int .i64 0]) ?_ 0 _ rfl;(with_reducible repeat (first|refine blk_drewN ?_ _|refine blk_drew ?_|refine blk_alloc ?_ _));exact BK425.out⟩
               have n5_ : Aside0 (Below w.heap.size w (((w27.setCell ⟨gb425,0,none⟩ (.int .i64 t421)).setCell ⟨gb425,1,none⟩ (.int .i64 t422)).setCell ⟨gb425,2,none⟩ (.int .i64 t423))) := ⟨by repeat (first|(with_reducible first|exact HB.out|apply below_alloc|apply pw_below_drewN|apply below_drew1|refine below_set ?_ GE425.out)|exact HB.out)⟩
               (try clear HO_7)
               (try clear HO_8)
               (try clear HL419_0)
               (try clear HL420_0)
               (try clear BK425)
               (try clear HB)
               (try simp only [IntKind.wrap_u8, IntKind.wrap_u32])
               generalize (((w27.setCell ⟨gb425,0,none⟩ (.int .i64 t421)).setCell ⟨gb425,1,none⟩ (.int .i64 t422)).setCell ⟨gb425,2,none⟩ (.int .i64 t423)) = w33 at n0_ n1_ n2_ n3_ n4_ n5_ ⊢
               have HO_7 := n0_
               have HO_8 := n1_
               have HL419_0 := n2_
               have HL420_0 := n3_
               have BK425 := n4_
               have HB := n5_
               clear n0_ n1_ n2_ n3_ n4_ n5_
               (try (rw [drewN_self w33];generalize hq_ : World.drewN w33 _ = w33;have n0_ : Aside0 (Kd.R (Kd.int .u8) 5 w33 w.heap.size (fun k_ => some k_ ≠ (.slice (some ad420) t412.length co24 : Value).ownBlock ∧ some k_ ≠ (.slice (some ad419) t413.length co23 : Value).ownBlock) (.slice A419_0 (rd_L2 t413 x10_2).length c419_0) (rd_L2 t413 x10_2)) := ⟨by rw [← hq_];exact (by (with_reducible repeat (first|apply Kd.R_alloc|apply Kd.R_drewN|apply Kd.R_drew));exact HL419_0.out)⟩;have n1_ : Aside0 (Kd.R (Kd.int .u8) 5 w33 w.heap.size (fun k_ => some k_ ≠ (.slice (some ad420) t412.length co24 : Value).ownBlock ∧ some k_ ≠ (.slice (some ad419) t413.length co23 : Value).ownBlock) (.slice A420_0 (rd_L2 t412 x10_2).length c420_0) (rd_L2 t412 x10_2)) := ⟨by rw [← hq_];exact (by (with_reducible repeat (first|apply Kd.R_alloc|apply Kd.R_drewN|apply Kd.R_drew));exact HL420_0.out)⟩;have n2_ : Aside0 (Kd.S (Kd.slice 5 (Kd.int .u8)) 36 w33 w.heap.size (fun k_ => some k_ ≠ (.slice (some ad419) t413.length co23 : Value).ownBlock) (.slice (some ad420) t412.length co24) t412) := ⟨by rw [← hq_];exact (by (with_reducible repeat (first|apply Kd.S_alloc|apply Kd.S_drewN|apply Kd.S_drew));exact HO_7.out)⟩;have n3_ : Aside0 (Kd.S (Kd.slice 5 (Kd.int .u8)) 36 w33 w.heap.size (fun k_ => some k_ ≠ (.slice (some ad420) t412.length co24 : Value).ownBlock) (.slice (some ad419) t413.length co23) t413) := ⟨by rw [← hq_];exact (by (with_reducible repeat (first|apply Kd.S_alloc|apply Kd.S_drewN|apply Kd.S_drew));exact HO_8.out)⟩;have n4_ : Aside0 (w33.heap[gb425]? = some (.cells #[.int .i64 t421,.int .i64 t422,.int .i64 t423] 40 (0,0))) := ⟨by rw [← hq_];exact (by (with_reducible repeat (first|refine blk_drewN ?_ _|refine blk_drew ?_|refine blk_alloc ?_ _));exact BK425.out)⟩;have n5_ : Aside0 (Below w.heap.size w w33) := ⟨by rw [← hq_];exact (by repeat (first|(with_reducible first|exact HB.out|apply below_alloc|apply pw_below_drewN|apply below_drew1|refine below_set ?_ GE425.out)|exact HB.out))⟩;clear HL419_0 HL420_0 HO_7 HO_8 BK425 HB hq_;have HL419_0 := n0_;have HL420_0 := n1_;have HO_7 := n2_;have HO_8 := n3_;have BK425 := n4_;have HB := n5_;clear n0_ n1_ n2_ n3_ n4_ n5_))
               have n0_ := Aside0.mk (Kd.S_drew HO_7.out)
               have n1_ := Aside0.mk (Kd.S_drew HO_8.out)
               have n2_ := Aside0.mk (Kd.R_drew HL419_0.out)
               have n3_ := Aside0.mk (Kd.R_drew HL420_0.out)
               have n4_ := Aside0.mk (blk_drew BK425.out)
               have n5_ := Aside0.mk (below_drew1 HB.out)
               clear HO_7
               clear HO_8
               clear HL419_0
               clear HL420_0
               clear BK425
               clear HB
               have HO_7 := n0_
               have HO_8 := n1_
               have HL419_0 := n2_
               have HL420_0 := n3_
               have BK425 := n4_
               have HB := n5_
               clear n0_ n1_ n2_ n3_ n4_ n5_
               refine start_ (n := 17) (S := fun w' => w'.cell? ⟨gb425,0,none⟩ = some (.int .i64 t421) ∧ w'.cell? ⟨gb425,1,none⟩ = some (.int .i64 t422) ∧ w'.cell? ⟨gb425,2,none⟩ = some (.int .i64 t423)) (ds := []) #[false,false,false,false,false,false,false,false,false,false,false,false,false,false,false,false,false] (by kernel_rfl) rfl rfl ⟨(blk_cell BK425.out 0).trans rfl,(blk_cell BK425.out 1).trans rfl,(blk_cell BK425.out 2).trans rfl⟩ (fun hHeld => ?_);refine with_tabW strakelaw15_PagePads.tab14 strakelaw15_PagePads.bits14 (fun HT_ HW_ => ?_)
               generalize w33.drew = w34 at HO_7 HO_8 HL419_0 HL420_0 BK425 HB hHeld ⊢
               refine pure_ (i := 0) (N := some 58) (v := ?_) (a' := ?_) #[true,false,false,false,false,false,false,false,false,false,false,false,false,false,false,false,false] rfl rfl (any_of HT_.out (by kernel_rfl)) (fun _ _ _ h => h) (Or.inl ⟨by rfl,?_⟩) ?_ ?_
               rotate_left
               ·intro w'
                go_simp
                with_reducible rfl
               rotate_left
               ·simp only [Act.put, List.setIfInBounds_toArray, List.set_cons_zero, List.set_cons_succ, i64_w, i32_w]
                rfl
               refine pure_ (i := 1) (N := some 59) (v := ?_) (a' := ?_) #[true,true,false,false,false,false,false,false,false,false,false,false,false,false,false,false,false] rfl rfl (any_of HT_.out (by kernel_rfl)) (fun _ _ _ h => h) (Or.inl ⟨by rfl,?_⟩) ?_ ?_
               rotate_left
               ·intro w'
                go_simp
                with_reducible rfl
               rotate_left
               ·simp only [Act.put, List.setIfInBounds_toArray, List.set_cons_zero, List.set_cons_succ, i64_w, i32_w]
                rfl
               refine pure_ (i := 2) (N := some 60) (v := ?_) (a' := ?_) #[true,true,true,false,false,false,false,false,false,false,false,false,false,false,false,false,false] rfl rfl (any_of HT_.out (by kernel_rfl)) (fun _ _ _ h => h) (Or.inl ⟨by rfl,?_⟩) ?_ ?_
               rotate_left
               ·intro w'
                go_simp
                with_reducible rfl
               rotate_left
               ·simp only [Act.put, List.setIfInBounds_toArray, List.set_cons_zero, List.set_cons_succ, i64_w, i32_w]
                rfl
               refine pure_ (i := 4) (N := some 62) (v := ?_) (a' := ?_) #[true,true,true,false,true,false,false,false,false,false,false,false,false,false,false,false,false] rfl rfl (any_of HT_.out (by kernel_rfl)) (fun _ _ _ h => h) (Or.inl ⟨by rfl,?_⟩) ?_ ?_
               rotate_left
               ·intro w'
                go_simp
                with_reducible rfl
               rotate_left
               ·simp only [Act.put, List.setIfInBounds_toArray, List.set_cons_zero, List.set_cons_succ, i64_w, i32_w]
                rfl
               refine take_ (i := 3) (N := some 61) (v := ?_) (a' := ?_) #[true,true,true,true,true,false,false,false,false,false,false,false,false,false,false,false,false] rfl rfl (take_ofW HT_.out HW_.out (by kernel_rfl)) (fun _ _ _ h => h) (Or.inl ⟨by rfl,?_⟩) hHeld ?_ ?_
               rotate_left
               ·rintro w' ⟨s0, s1, s2⟩
                go_simp
                with_reducible rfl
               rotate_left
               ·simp only [Act.put, List.setIfInBounds_toArray, List.set_cons_zero, List.set_cons_succ, i64_w, i32_w]
                rfl
               refine pure_ (i := 5) (N := some 63) (v := ?_) (a' := ?_) #[true,true,true,true,true,true,false,false,false,false,false,false,false,false,false,false,false] rfl rfl (any_of HT_.out (by kernel_rfl)) (fun _ _ _ h => h) (Or.inl ⟨by rfl,?_⟩) ?_ ?_
               rotate_left
               ·intro w'
                go_simp
                with_reducible rfl
               rotate_left
               ·simp only [Act.put, List.setIfInBounds_toArray, List.set_cons_zero, List.set_cons_succ, i64_w, i32_w]
                rfl
               refine pure_ (i := 6) (N := some 64) (v := ?_) (a' := ?_) #[true,true,true,true,true,true,true,false,false,false,false,false,false,false,false,false,false] rfl rfl (any_of HT_.out (by kernel_rfl)) (fun _ _ _ h => h) (Or.inl ⟨by rfl,?_⟩) ?_ ?_
               rotate_left
               ·intro w'
                go_simp
                with_reducible rfl
               rotate_left
               ·simp only [Act.put, List.setIfInBounds_toArray, List.set_cons_zero, List.set_cons_succ, i64_w, i32_w]
                rfl
               refine pure_ (i := 7) (N := some 65) (v := ?_) (a' := ?_) #[true,true,true,true,true,true,true,true,false,false,false,false,false,false,false,false,false] rfl rfl (any_of HT_.out (by kernel_rfl)) (fun _ _ _ h => h) (Or.inl ⟨by rfl,?_⟩) ?_ ?_
               rotate_left
               ·intro w'
                go_simp
                with_reducible rfl
               rotate_left
               ·simp only [Act.put, List.setIfInBounds_toArray, List.set_cons_zero, List.set_cons_succ, i64_w, i32_w]
                rfl
               refine pure_ (i := 8) (N := some 66) (v := undef) (a' := ?_) #[true,true,true,true,true,true,true,true,true,false,false,false,false,false,false,false,false] rfl rfl (any_of HT_.out (by kernel_rfl)) (fun _ _ _ h => h) (Or.inr ⟨by rfl,rfl⟩) ?_ ?_
               rotate_left
               ·simp only [Act.put, List.setIfInBounds_toArray, List.set_cons_zero, List.set_cons_succ, i64_w, i32_w]
                rfl
               refine pure_ (i := 9) (N := some 67) (v := undef) (a' := ?_) #[true,true,true,true,true,true,true,true,true,true,false,false,false,false,false,false,false] rfl rfl (any_of HT_.out (by kernel_rfl)) (fun _ _ _ h => h) (Or.inr ⟨by rfl,rfl⟩) ?_ ?_
               rotate_left
               ·simp only [Act.put, List.setIfInBounds_toArray, List.set_cons_zero, List.set_cons_succ, i64_w, i32_w]
                rfl
               refine pure_ (i := 10) (N := some 68) (v := undef) (a' := ?_) #[true,true,true,true,true,true,true,true,true,true,true,false,false,false,false,false,false] rfl rfl (any_of HT_.out (by kernel_rfl)) (fun _ _ _ h => h) (Or.inr ⟨by rfl,rfl⟩) ?_ ?_
               rotate_left
               ·simp only [Act.put, List.setIfInBounds_toArray, List.set_cons_zero, List.set_cons_succ, i64_w, i32_w]
                rfl
               refine pure_ (i := 11) (N := some 69) (v := undef) (a' := ?_) #[true,true,true,true,true,true,true,true,true,true,true,true,false,false,false,false,false] rfl rfl (any_of HT_.out (by kernel_rfl)) (fun _ _ _ h => h) (Or.inr ⟨by rfl,rfl⟩) ?_ ?_
               rotate_left
               ·simp only [Act.put, List.setIfInBounds_toArray, List.set_cons_zero, List.set_cons_succ, i64_w, i32_w]
                rfl
               refine pure_ (i := 12) (N := some 70) (v := undef) (a' := ?_) #[true,true,true,true,true,true,true,true,true,true,true,true,true,false,false,false,false] rfl rfl (any_of HT_.out (by kernel_rfl)) (fun _ _ _ h => h) (Or.inr ⟨by rfl,rfl⟩) ?_ ?_
               rotate_left
               ·simp only [Act.put, List.setIfInBounds_toArray, List.set_cons_zero, List.set_cons_succ, i64_w, i32_w]
                rfl
               refine pure_ (i := 13) (N := some 71) (v := undef) (a' := ?_) #[true,true,true,true,true,true,true,true,true,true,true,true,true,true,false,false,false] rfl rfl (any_of HT_.out (by kernel_rfl)) (fun _ _ _ h => h) (Or.inr ⟨by rfl,rfl⟩) ?_ ?_
               rotate_left
               ·simp only [Act.put, List.setIfInBounds_toArray, List.set_cons_zero, List.set_cons_succ, i64_w, i32_w]
                rfl
               refine pure_ (i := 14) (N := some 72) (v := undef) (a' := ?_) #[true,true,true,true,true,true,true,true,true,true,true,true,true,true,true,false,false] rfl rfl (any_of HT_.out (by kernel_rfl)) (fun _ _ _ h => h) (Or.inr ⟨by rfl,rfl⟩) ?_ ?_
               rotate_left
               ·simp only [Act.put, List.setIfInBounds_toArray, List.set_cons_zero, List.set_cons_succ, i64_w, i32_w]
                rfl
               refine pure_ (i := 15) (N := some 73) (v := undef) (a' := ?_) #[true,true,true,true,true,true,true,true,true,true,true,true,true,true,true,true,false] rfl rfl (any_of HT_.out (by kernel_rfl)) (fun _ _ _ h => h) (Or.inr ⟨by rfl,rfl⟩) ?_ ?_
               rotate_left
               ·simp only [Act.put, List.setIfInBounds_toArray, List.set_cons_zero, List.set_cons_succ, i64_w, i32_w]
                rfl
               refine pure_ (i := 16) (N := some 74) (v := ?_) (a' := ?_) #[true,true,true,true,true,true,true,true,true,true,true,true,true,true,true,true,true] rfl rfl (any_of HT_.out (by kernel_rfl)) (fun _ _ _ h => h) (Or.inl ⟨by rfl,?_⟩) ?_ ?_
               rotate_left
               ·intro w'
                go_simp
                with_reducible rfl
               rotate_left
               ·simp only [Act.put, List.setIfInBounds_toArray, List.set_cons_zero, List.set_cons_succ, i64_w, i32_w]
                rfl
               refine done_ (done_of HT_.out (by kernel_rfl)) ?_
               try go_wp2
               go_meet
               case rel => exact ⟨_,(true),(by first|rfl|(simp;done)|(simp [*];done)),H',⟨by have := HJ7.out;have := HK2.out;first|omega|exact Nat.le_refl _⟩,⟨by (with_reducible repeat (first|apply Kd.S_alloc|apply Kd.S_drewN|apply Kd.S_drew));exact HO_7.out⟩,⟨by (with_reducible repeat (first|apply Kd.S_alloc|apply Kd.S_drewN|apply Kd.S_drew));exact HO_8.out⟩,⟨by (with_reducible repeat (first|refine blk_drewN ?_ _|refine blk_drew ?_|refine blk_alloc ?_ _));exact BK425.out⟩,⟨by repeat (first|(with_reducible first|exact HB.out|apply below_alloc|apply pw_below_drewN|apply below_drew1|refine below_set ?_ GE425.out)|exact HB.out)⟩⟩
              ·rw [if_neg c32] at H
               have c32b0 : (!(t421 == 3) || (!(t422 == 0) || (!(t423 == 0)))) = false := by simpa using c32
               clear c32
               by_cases c35 : 16 ≤ 281474976710656
               ·rw [if_pos c35] at H
                have c35b0 := eq_true c35
                have c35b1 : decide (16 ≤ 281474976710656) = true := decide_eq_true c35
                clear c35
                obtain ⟨y427, hy427⟩ : ∃ y_ : List Int, y_ = (List.replicate 16 0) := ⟨_, rfl⟩
                replace H : (strakelaw15_PagePads.j2 k2 a0 l1 t410 t412 t413 x10_2 ((strOfNums (rd_L2 t412 x10_2)).toList != (strOfNums y427).toList)) = some r := by first|(rw [hy427];with_reducible exact H)|(have H2_ := (Option.bind_some _ _).symm.trans H;rw [hy427];with_reducible exact H2_)|(have H2_ := (Option.bind_some _ _).symm.trans H;with_reducible exact H2_)|with_reducible exact H|(rw [hy427];exact H)|exact H
                have Ny427 := Aside0.mk hy427
                clear hy427
                have H' := Aside0.mk H
                clear H
                try go_wp2
                have n0_ : Aside0 (Kd.S (Kd.slice 5 (Kd.int .u8)) 36 (((w27.setCell ⟨gb425,0,none⟩ (.int .i64 t421)).setCell ⟨gb425,1,none⟩ (.int .i64 t422)).setCell ⟨gb425,2,none⟩ (.int .i64 t423)) w.heap.size (fun k_ => some k_ ≠ (.slice (some ad419) t413.length co23 : Value).ownBlock) (.slice (some ad420) t412.length co24) t412) := ⟨by (with_reducible repeat (first|apply Kd.S_alloc|apply Kd.S_drewN|apply Kd.S_drew));exact Kd.S_mono (Kd.S_far (p := ⟨gb425,2,none⟩) (Kd.S_far (p := ⟨gb425,1,none⟩) (Kd.S_far (p := ⟨gb425,0,none⟩) (Kd.S_types HO_7.out BK425.out (by decide)) (fun _ hk => hk.2) (.int .i64 t421)) (fun _ hk => hk.2) (.int .i64 t422)) (fun _ hk => hk.2) (.int .i64 t423)) (fun _ hk => hk.1)⟩
                have n1_ : Aside0 (Kd.S (Kd.slice 5 (Kd.int .u8)) 36 (((w27.setCell ⟨gb425,0,none⟩ (.int .i64 t421)).setCell ⟨gb425,1,none⟩ (.int .i64 t422)).setCell ⟨gb425,2,none⟩ (.int .i64 t423)) w.heap.size (fun k_ => some k_ ≠ (.slice (some ad420) t412.length co24 : Value).ownBlock) (.slice (some ad419) t413.length co23) t413) := ⟨by (with_reducible repeat (first|apply Kd.S_alloc|apply Kd.S_drewN|apply Kd.S_drew));exact Kd.S_mono (Kd.S_far (p := ⟨gb425,2,none⟩) (Kd.S_far (p := ⟨gb425,1,none⟩) (Kd.S_far (p := ⟨gb425,0,none⟩) (Kd.S_types HO_8.out BK425.out (by decide)) (fun _ hk => hk.2) (.int .i64 t421)) (fun _ hk => hk.2) (.int .i64 t422)) (fun _ hk => hk.2) (.int .i64 t423)) (fun _ hk => hk.1)⟩
                have n2_ : Aside0 (Kd.R (Kd.int .u8) 5 (((w27.setCell ⟨gb425,0,none⟩ (.int .i64 t421)).setCell ⟨gb425,1,none⟩ (.int .i64 t422)).setCell ⟨gb425,2,none⟩ (.int .i64 t423)) w.heap.size (fun k_ => some k_ ≠ (.slice (some ad420) t412.length co24 : Value).ownBlock ∧ some k_ ≠ (.slice (some ad419) t413.length co23 : Value).ownBlock) (.slice A419_0 (rd_L2 t413 x10_2).length c419_0) (rd_L2 t413 x10_2)) := ⟨by (with_reducible repeat (first|apply Kd.R_alloc|apply Kd.R_drewN|apply Kd.R_drew));exact Kd.R_mono (Kd.R_far (p := ⟨gb425,2,none⟩) (Kd.R_far (p := ⟨gb425,1,none⟩) (Kd.R_far (p := ⟨gb425,0,none⟩) (Kd.R_types HL419_0.out BK425.out (by decide)) (fun _ hk => hk.2) (.int .i64 t421)) (fun _ hk => hk.2) (.int .i64 t422)) (fun _ hk => hk.2) (.int .i64 t423)) (fun _ hk => ⟨hk.1.1,hk.1.2⟩)⟩
                have n3_ : Aside0 (Kd.R (Kd.int .u8) 5 (((w27.setCell ⟨gb425,0,none⟩ (.int .i64 t421)).setCell ⟨gb425,1,none⟩ (.int .i64 t422)).setCell ⟨gb425,2,none⟩ (.int .i64 t423)) w.heap.size (fun k_ => some k_ ≠ (.slice (some ad420) t412.length co24 : Value).ownBlock ∧ some k_ ≠ (.slice (some ad419) t413.length co23 : Value).ownBlock) (.slice A420_0 (rd_L2 t412 x10_2).length c420_0) (rd_L2 t412 x10_2)) := ⟨by (with_reducible repeat (first|apply Kd.R_alloc|apply Kd.R_drewN|apply Kd.R_drew));exact Kd.R_mono (Kd.R_far (p := ⟨gb425,2,none⟩) (Kd.R_far (p := ⟨gb425,1,none⟩) (Kd.R_far (p := ⟨gb425,0,none⟩) (Kd.R_types HL420_0.out BK425.out (by decide)) (fun _ hk => hk.2) (.int .i64 t421)) (fun _ hk => hk.2) (.int .i64 t422)) (fun _ hk => hk.2) (.int .i64 t423)) (fun _ hk => ⟨hk.1.1,hk.1.2⟩)⟩
                have n4_ : Aside0 ((((w27.setCell ⟨gb425,0,none⟩ (.int .i64 t421)).setCell ⟨gb425,1,none⟩ (.int .i64 t422)).setCell ⟨gb425,2,none⟩ (.int .i64 t423)).heap[gb425]? = some (.cells #[.int .i64 t421,.int .i64 t422,.int .i64 t423] 40 (0,0))) := ⟨by (with_reducible repeat (first|refine blk_drewN ?_ _|refine blk_drew ?_|refine blk_alloc ?_ _));refine blk_put (cs := #[.int .i64 t421,.int .i64 t422,.int .i64 0]) ?_ 2 _ rfl;(with_reducible repeat (first|refine blk_drewN ?_ _|refine blk_drew ?_|refine blk_alloc ?_ _));refine blk_put (cs := #[.int .i64 t421,.int .i64 0,.int .i64 0]) ?_ 1 _ rfl;(with_reducible repeat (first|refine blk_drewN ?_ _|refine blk_drew ?_|refine blk_alloc ?_ _));refine blk_put (cs := #[.int .i64 0,.int .i64 0,.int .i64 0]) ?_ 0 _ rfl;(with_reducible repeat (first|refine blk_drewN ?_ _|refine blk_drew ?_|refine blk_alloc ?_ _));exact BK425.out⟩
                have n5_ : Aside0 (Below w.heap.size w (((w27.setCell ⟨gb425,0,none⟩ (.int .i64 t421)).setCell ⟨gb425,1,none⟩ (.int .i64 t422)).setCell ⟨gb425,2,none⟩ (.int .i64 t423))) := ⟨by repeat (first|(with_reducible first|exact HB.out|apply below_alloc|apply pw_below_drewN|apply below_drew1|refine below_set ?_ GE425.out)|exact HB.out)⟩
                (try clear HO_7)
                (try clear HO_8)
                (try clear HL419_0)
                (try clear HL420_0)
                (try clear BK425)
                (try clear HB)
                (try simp only [IntKind.wrap_u8, IntKind.wrap_u32])
                generalize (((w27.setCell ⟨gb425,0,none⟩ (.int .i64 t421)).setCell ⟨gb425,1,none⟩ (.int .i64 t422)).setCell ⟨gb425,2,none⟩ (.int .i64 t423)) = w36 at n0_ n1_ n2_ n3_ n4_ n5_ ⊢
                have HO_7 := n0_
                have HO_8 := n1_
                have HL419_0 := n2_
                have HL420_0 := n3_
                have BK425 := n4_
                have HB := n5_
                clear n0_ n1_ n2_ n3_ n4_ n5_
                (try (rw [drewN_self w36];generalize hq_ : World.drewN w36 _ = w36;have n0_ : Aside0 (Kd.R (Kd.int .u8) 5 w36 w.heap.size (fun k_ => some k_ ≠ (.slice (some ad420) t412.length co24 : Value).ownBlock ∧ some k_ ≠ (.slice (some ad419) t413.length co23 : Value).ownBlock) (.slice A419_0 (rd_L2 t413 x10_2).length c419_0) (rd_L2 t413 x10_2)) := ⟨by rw [← hq_];exact (by (with_reducible repeat (first|apply Kd.R_alloc|apply Kd.R_drewN|apply Kd.R_drew));exact HL419_0.out)⟩;have n1_ : Aside0 (Kd.R (Kd.int .u8) 5 w36 w.heap.size (fun k_ => some k_ ≠ (.slice (some ad420) t412.length co24 : Value).ownBlock ∧ some k_ ≠ (.slice (some ad419) t413.length co23 : Value).ownBlock) (.slice A420_0 (rd_L2 t412 x10_2).length c420_0) (rd_L2 t412 x10_2)) := ⟨by rw [← hq_];exact (by (with_reducible repeat (first|apply Kd.R_alloc|apply Kd.R_drewN|apply Kd.R_drew));exact HL420_0.out)⟩;have n2_ : Aside0 (Kd.S (Kd.slice 5 (Kd.int .u8)) 36 w36 w.heap.size (fun k_ => some k_ ≠ (.slice (some ad419) t413.length co23 : Value).ownBlock) (.slice (some ad420) t412.length co24) t412) := ⟨by rw [← hq_];exact (by (with_reducible repeat (first|apply Kd.S_alloc|apply Kd.S_drewN|apply Kd.S_drew));exact HO_7.out)⟩;have n3_ : Aside0 (Kd.S (Kd.slice 5 (Kd.int .u8)) 36 w36 w.heap.size (fun k_ => some k_ ≠ (.slice (some ad420) t412.length co24 : Value).ownBlock) (.slice (some ad419) t413.length co23) t413) := ⟨by rw [← hq_];exact (by (with_reducible repeat (first|apply Kd.S_alloc|apply Kd.S_drewN|apply Kd.S_drew));exact HO_8.out)⟩;have n4_ : Aside0 (w36.heap[gb425]? = some (.cells #[.int .i64 t421,.int .i64 t422,.int .i64 t423] 40 (0,0))) := ⟨by rw [← hq_];exact (by (with_reducible repeat (first|refine blk_drewN ?_ _|refine blk_drew ?_|refine blk_alloc ?_ _));exact BK425.out)⟩;have n5_ : Aside0 (Below w.heap.size w w36) := ⟨by rw [← hq_];exact (by repeat (first|(with_reducible first|exact HB.out|apply below_alloc|apply pw_below_drewN|apply below_drew1|refine below_set ?_ GE425.out)|exact HB.out))⟩;clear HL419_0 HL420_0 HO_7 HO_8 BK425 HB hq_;have HL419_0 := n0_;have HL420_0 := n1_;have HO_7 := n2_;have HO_8 := n3_;have BK425 := n4_;have HB := n5_;clear n0_ n1_ n2_ n3_ n4_ n5_))
                have n0_ := Aside0.mk (Kd.S_drew HO_7.out)
                have n1_ := Aside0.mk (Kd.S_drew HO_8.out)
                have n2_ := Aside0.mk (Kd.R_drew HL419_0.out)
                have n3_ := Aside0.mk (Kd.R_drew HL420_0.out)
                have n4_ := Aside0.mk (blk_drew BK425.out)
                have n5_ := Aside0.mk (below_drew1 HB.out)
                clear HO_7
                clear HO_8
                clear HL419_0
                clear HL420_0
                clear BK425
                clear HB
                have HO_7 := n0_
                have HO_8 := n1_
                have HL419_0 := n2_
                have HL420_0 := n3_
                have BK425 := n4_
                have HB := n5_
                clear n0_ n1_ n2_ n3_ n4_ n5_
                have p426 : 0 ≤ (x10_2 : Int) := of_decide_eq_true (by first | (with_reducible assumption) | assumption)
                have q426 : x10_2 < (t412.length : Int) := of_decide_eq_true (by first|(with_reducible assumption)|assumption)
                obtain ⟨ad426,A426_0,c426_0,e426,hx426_0,hl426_0,hi426_0⟩ := at_L2 (Kd.S_reads' HO_7.out).2.2 x10_2 p426 q426
                obtain rfl : ad420 = ad426 := (by injection e426)
                obtain ⟨ce426,hce426,hMe426,hcc426⟩ := Kd.S_get HO_7.out [] x10_2 p426 (by first|exact q426|exact of_decide_eq_true (by first|(with_reducible assumption)|assumption)|(have e_ := (Kd.S_reads' HO_7.out).1;omega))
                obtain ⟨ve426_0, rfl, ge426_0⟩ := hMe426
                have hv426_0 := hcc426 0 _ rfl
                rw [Nat.add_zero, show ((Kd.slice 5 (Kd.int .u8))).sz = 1 from rfl, Nat.mul_one] at hv426_0
                replace hv426_0 := Option.some.inj (hv426_0.symm.trans hx426_0)
                rw [hv426_0] at ge426_0
                have HL426_0 := Aside0.mk (show Kd.R (Kd.int .u8) 5 _ _ _ _ (rd_L2 t412 x10_2) from ge426_0)
                clear hv426_0 ge426_0
                clear hcc426 hce426
                have HR426_0 := Aside0.mk hi426_0
                have HC426_0 := Aside0.mk hl426_0
                clear hi426_0 hl426_0
                replace p426 := eq_true p426
                replace q426 := eq_true q426
                have hcv38 := Kd.C_string (P := Try.prog) (A := A426_0) (c := c426_0) Try.underlying36 Try.underlying5 Try.underlying9 (by repeat (first|(with_reducible exact HR426_0.out)|(with_reducible refine Kd.C_alloc ?_ _)|(with_reducible refine Kd.C_drewN ?_ _)|(with_reducible refine Kd.C_drew ?_)|exact HR426_0.out))
                refine start_ (n := 17) (S := fun w' => w'.cell? ⟨gb425,0,none⟩ = some (.int .i64 t421) ∧ w'.cell? ⟨gb425,1,none⟩ = some (.int .i64 t422) ∧ w'.cell? ⟨gb425,2,none⟩ = some (.int .i64 t423) ∧ w'.cell? (ad420.add (x10_2).toNat) = some (.slice A426_0 (rd_L2 t412 x10_2).length c426_0) ∧ (convert 36 9 (.slice A426_0 (rd_L2 t412 x10_2).length c426_0)).run Try.prog w' = .ok (.string (strOfNums (rd_L2 t412 x10_2))) w') (ds := []) #[false,false,false,false,false,false,false,false,false,false,false,false,false,false,false,false,false] (by kernel_rfl) rfl rfl ⟨(blk_cell BK425.out 0).trans rfl,(blk_cell BK425.out 1).trans rfl,(blk_cell BK425.out 2).trans rfl,hx426_0,Kd.C_string (P := Try.prog) (A := A426_0) (c := c426_0) Try.underlying36 Try.underlying5 Try.underlying9 (Kd.C_drew HR426_0.out)⟩ (fun hHeld => ?_);refine with_tabW strakelaw15_PagePads.tab14 strakelaw15_PagePads.bits14 (fun HT_ HW_ => ?_)
                generalize w36.drew = w37 at HO_7 HO_8 HL419_0 HL420_0 BK425 HB HL426_0 HR426_0 hx426_0 hHeld ⊢
                refine pure_ (i := 0) (N := some 58) (v := ?_) (a' := ?_) #[true,false,false,false,false,false,false,false,false,false,false,false,false,false,false,false,false] rfl rfl (any_of HT_.out (by kernel_rfl)) (fun _ _ _ h => h) (Or.inl ⟨by rfl,?_⟩) ?_ ?_
                rotate_left
                ·intro w'
                 go_simp
                 with_reducible rfl
                rotate_left
                ·simp only [Act.put, List.setIfInBounds_toArray, List.set_cons_zero, List.set_cons_succ, i64_w, i32_w]
                 rfl
                refine pure_ (i := 1) (N := some 59) (v := ?_) (a' := ?_) #[true,true,false,false,false,false,false,false,false,false,false,false,false,false,false,false,false] rfl rfl (any_of HT_.out (by kernel_rfl)) (fun _ _ _ h => h) (Or.inl ⟨by rfl,?_⟩) ?_ ?_
                rotate_left
                ·intro w'
                 go_simp
                 with_reducible rfl
                rotate_left
                ·simp only [Act.put, List.setIfInBounds_toArray, List.set_cons_zero, List.set_cons_succ, i64_w, i32_w]
                 rfl
                refine pure_ (i := 2) (N := some 60) (v := ?_) (a' := ?_) #[true,true,true,false,false,false,false,false,false,false,false,false,false,false,false,false,false] rfl rfl (any_of HT_.out (by kernel_rfl)) (fun _ _ _ h => h) (Or.inl ⟨by rfl,?_⟩) ?_ ?_
                rotate_left
                ·intro w'
                 go_simp
                 with_reducible rfl
                rotate_left
                ·simp only [Act.put, List.setIfInBounds_toArray, List.set_cons_zero, List.set_cons_succ, i64_w, i32_w]
                 rfl
                refine pure_ (i := 4) (N := some 62) (v := ?_) (a' := ?_) #[true,true,true,false,true,false,false,false,false,false,false,false,false,false,false,false,false] rfl rfl (any_of HT_.out (by kernel_rfl)) (fun _ _ _ h => h) (Or.inl ⟨by rfl,?_⟩) ?_ ?_
                rotate_left
                ·intro w'
                 go_simp
                 with_reducible rfl
                rotate_left
                ·simp only [Act.put, List.setIfInBounds_toArray, List.set_cons_zero, List.set_cons_succ, i64_w, i32_w]
                 rfl
                refine take_ (i := 3) (N := some 61) (v := ?_) (a' := ?_) #[true,true,true,true,true,false,false,false,false,false,false,false,false,false,false,false,false] rfl rfl (take_ofW HT_.out HW_.out (by kernel_rfl)) (fun _ _ _ h => h) (Or.inl ⟨by rfl,?_⟩) hHeld ?_ ?_
                rotate_left
                ·rintro w' ⟨s0, s1, s2, s3, s4⟩
                 go_simp
                 with_reducible rfl
                rotate_left
                ·simp only [Act.put, List.setIfInBounds_toArray, List.set_cons_zero, List.set_cons_succ, i64_w, i32_w]
                 rfl
                refine pure_ (i := 5) (N := some 63) (v := ?_) (a' := ?_) #[true,true,true,true,true,true,false,false,false,false,false,false,false,false,false,false,false] rfl rfl (any_of HT_.out (by kernel_rfl)) (fun _ _ _ h => h) (Or.inl ⟨by rfl,?_⟩) ?_ ?_
                rotate_left
                ·intro w'
                 go_simp
                 with_reducible rfl
                rotate_left
                ·simp only [Act.put, List.setIfInBounds_toArray, List.set_cons_zero, List.set_cons_succ, i64_w, i32_w]
                 rfl
                refine pure_ (i := 6) (N := some 64) (v := ?_) (a' := ?_) #[true,true,true,true,true,true,true,false,false,false,false,false,false,false,false,false,false] rfl rfl (any_of HT_.out (by kernel_rfl)) (fun _ _ _ h => h) (Or.inl ⟨by rfl,?_⟩) ?_ ?_
                rotate_left
                ·intro w'
                 go_simp
                 with_reducible rfl
                rotate_left
                ·simp only [Act.put, List.setIfInBounds_toArray, List.set_cons_zero, List.set_cons_succ, i64_w, i32_w]
                 rfl
                refine pure_ (i := 7) (N := some 65) (v := ?_) (a' := ?_) #[true,true,true,true,true,true,true,true,false,false,false,false,false,false,false,false,false] rfl rfl (any_of HT_.out (by kernel_rfl)) (fun _ _ _ h => h) (Or.inl ⟨by rfl,?_⟩) ?_ ?_
                rotate_left
                ·intro w'
                 go_simp
                 with_reducible rfl
                rotate_left
                ·simp only [Act.put, List.setIfInBounds_toArray, List.set_cons_zero, List.set_cons_succ, i64_w, i32_w]
                 rfl
                refine pure_ (i := 8) (N := some 66) (v := ?_) (a' := ?_) #[true,true,true,true,true,true,true,true,true,false,false,false,false,false,false,false,false] rfl rfl (any_of HT_.out (by kernel_rfl)) (fun _ _ _ h => h) (Or.inl ⟨by rfl,?_⟩) ?_ ?_
                rotate_left
                ·intro w'
                 go_simp
                 with_reducible rfl
                rotate_left
                ·simp only [Act.put, List.setIfInBounds_toArray, List.set_cons_zero, List.set_cons_succ, i64_w, i32_w]
                 rfl
                refine pure_ (i := 9) (N := some 67) (v := ?_) (a' := ?_) #[true,true,true,true,true,true,true,true,true,true,false,false,false,false,false,false,false] rfl rfl (any_of HT_.out (by kernel_rfl)) (fun _ _ _ h => h) (Or.inl ⟨by rfl,?_⟩) ?_ ?_
                rotate_left
                ·intro w'
                 go_simp
                 with_reducible rfl
                rotate_left
                ·simp only [Act.put, List.setIfInBounds_toArray, List.set_cons_zero, List.set_cons_succ, i64_w, i32_w]
                 rfl
                refine pure_ (i := 10) (N := some 68) (v := ?_) (a' := ?_) #[true,true,true,true,true,true,true,true,true,true,true,false,false,false,false,false,false] rfl rfl (any_of HT_.out (by kernel_rfl)) (fun _ _ _ h => h) (Or.inl ⟨by rfl,?_⟩) ?_ ?_
                rotate_left
                ·intro w'
                 go_simp
                 with_reducible rfl
                rotate_left
                ·simp only [Act.put, List.setIfInBounds_toArray, List.set_cons_zero, List.set_cons_succ, i64_w, i32_w]
                 rfl
                refine take_ (i := 11) (N := some 69) (v := ?_) (a' := ?_) #[true,true,true,true,true,true,true,true,true,true,true,true,false,false,false,false,false] rfl rfl (take_ofW HT_.out HW_.out (by kernel_rfl)) (fun _ _ _ h => h) (Or.inl ⟨by rfl,?_⟩) hHeld ?_ ?_
                rotate_left
                ·rintro w' ⟨s0, s1, s2, s3, s4⟩
                 go_simp
                 with_reducible rfl
                rotate_left
                ·simp only [Act.put, List.setIfInBounds_toArray, List.set_cons_zero, List.set_cons_succ, i64_w, i32_w]
                 rfl
                refine take_ (i := 12) (N := some 70) (v := ?_) (a' := ?_) #[true,true,true,true,true,true,true,true,true,true,true,true,true,false,false,false,false] rfl rfl (take_ofW HT_.out HW_.out (by kernel_rfl)) (fun _ _ _ h => h) (Or.inl ⟨by rfl,?_⟩) hHeld ?_ ?_
                rotate_left
                ·rintro w' ⟨s0, s1, s2, s3, s4⟩
                 go_simp
                 with_reducible rfl
                rotate_left
                ·simp only [Act.put, List.setIfInBounds_toArray, List.set_cons_zero, List.set_cons_succ, i64_w, i32_w]
                 rfl
                refine one_ (i := 13) (N := some 71) #[true,true,true,true,true,true,true,true,true,true,true,true,true,true,false,false,false] rfl rfl (one_of HT_.out (by kernel_rfl)) (by decide) (fun K hK => ?_)
                refine Kd.R_make_step (Kd.int .u8) _ 5 (by rfl) (N := 71) rfl 36 _ _ rfl 16 rfl rfl Try.underlying36 (.int .u8 0) 1 info5 rfl (by decide) (by omega) 0 (ok := fun _ => True) (okp := fun _ => True) rfl (fun _ hk => hk) trivial (by omega) (by omega) (Below.refl _ _) (Nat.le_refl _) ?_
                intro v428 w39 ho40 hb hg_ hnew_
                have HS3_ := (hb.cell (World.block_lt_of_cell? _ _ (hHeld.2.2.2.1))).trans (hHeld.2.2.2.1)
                clear hg_ hnew_
                (first | rw [← Ny427.out] at ho40 | (simp only [Int.reduceToNat] at ho40; rw [← Ny427.out] at ho40))
                have n0_ := Aside0.mk (Kd.S_elder' (by (with_reducible repeat (first|apply Kd.S_alloc|apply Kd.S_drewN|apply Kd.S_drew));exact HO_7.out) (Kd.R_base ho40) hb)
                have n1_ := Aside0.mk (Kd.S_elder' (by (with_reducible repeat (first|apply Kd.S_alloc|apply Kd.S_drewN|apply Kd.S_drew));exact HO_8.out) (Kd.R_base ho40) hb)
                have n2_ := Aside0.mk (Kd.R_elder' (by (with_reducible repeat (first|apply Kd.R_alloc|apply Kd.R_drewN|apply Kd.R_drew));exact HL419_0.out) (Kd.R_base ho40) hb)
                have n3_ := Aside0.mk (Kd.R_elder' (by (with_reducible repeat (first|apply Kd.R_alloc|apply Kd.R_drewN|apply Kd.R_drew));exact HL420_0.out) (Kd.R_base ho40) hb)
                have n4_ := Aside0.mk (Kd.R_elder' (by (with_reducible repeat (first|apply Kd.R_alloc|apply Kd.R_drewN|apply Kd.R_drew));exact HL426_0.out) (Kd.R_base ho40) hb)
                have n5_ := Aside0.mk (Kd.R_lower (Kd.R_new' (Kd.R_new' (Kd.R_new' ho40 (Kd.R_lt (by (with_reducible repeat (first|apply Kd.R_alloc|apply Kd.R_drewN|apply Kd.R_drew));exact HL419_0.out))) (Kd.R_lt (by (with_reducible repeat (first|apply Kd.R_alloc|apply Kd.R_drewN|apply Kd.R_drew));exact HL420_0.out))) (Kd.R_lt (by (with_reducible repeat (first|apply Kd.R_alloc|apply Kd.R_drewN|apply Kd.R_drew));exact HL426_0.out))) (below_size (by repeat (first|(with_reducible first|exact HB.out|apply below_alloc|apply pw_below_drewN|apply below_drew1|refine below_set ?_ GE425.out)|exact HB.out))))
                have n6_ := Aside0.mk (blk_below (g := gb425) (o := .cells #[.int .i64 t421,.int .i64 t422,.int .i64 t423] 40 (0,0)) (by (with_reducible repeat (first|refine blk_drewN ?_ _|refine blk_drew ?_|refine blk_alloc ?_ _));exact BK425.out) hb)
                have n7_ := Aside0.mk (Kd.C_below (by repeat (first|(with_reducible exact HR426_0.out)|(with_reducible refine Kd.C_alloc ?_ _)|(with_reducible refine Kd.C_drewN ?_ _)|(with_reducible refine Kd.C_drew ?_)|exact HR426_0.out)) hb)
                have n8_ := Aside0.mk (below_step (by repeat (first|(with_reducible first|exact HB.out|apply below_alloc|apply pw_below_drewN|apply below_drew1|refine below_set ?_ GE425.out)|exact HB.out)) hb)
                clear HO_7
                clear HO_8
                clear HL419_0
                clear HL420_0
                clear HL426_0
                clear BK425
                clear HR426_0
                clear HB
                have HO_7 := n0_
                have HO_8 := n1_
                have HL419_0 := n2_
                have HL420_0 := n3_
                have HL426_0 := n4_
                have HO429 := n5_
                have BK425 := n6_
                have HR426_0 := n7_
                have HB := n8_
                clear n0_ n1_ n2_ n3_ n4_ n5_ n6_ n7_ n8_
                clear hb ho40
                refine hK.out _ _ ⟨(blk_cell BK425.out 0).trans rfl,(blk_cell BK425.out 1).trans rfl,(blk_cell BK425.out 2).trans rfl,HS3_,Kd.C_string (P := Try.prog) (A := A426_0) (c := c426_0) Try.underlying36 Try.underlying5 Try.underlying9 HR426_0.out⟩ (fun hHeld => ?_)
                clear hK K
                refine norm_ (a' := ?_) ?_ ?_
                rotate_left
                ·show Act.put _ (some 71) _ = _
                 simp only [Act.put, List.setIfInBounds_toArray, List.set_cons_zero, List.set_cons_succ, i64_w, i32_w]
                 rfl
                refine one_ (i := 14) (N := some 72) #[true,true,true,true,true,true,true,true,true,true,true,true,true,true,true,false,false] rfl rfl (one_of HT_.out (by kernel_rfl)) (by decide) (fun K hK => ?_)
                have hcv41 := own_string (P := Try.prog) Try.underlying36 Try.underlying5 Try.underlying9 (Kd.own_of_R HO429.out)
                refine value_ (w1 := ?_) (v := ?_) (by rfl) rfl ?_ ?_
                rotate_left 2
                ·go_simp
                 constructor
                 ·rfl
                 ·rfl
                clear hcv41
                refine hK.out _ _ hHeld (fun hHeld => ?_)
                clear hK K
                refine norm_ (a' := ?_) ?_ ?_
                rotate_left
                ·show Act.put _ (some 72) _ = _
                 simp only [Act.put, List.setIfInBounds_toArray, List.set_cons_zero, List.set_cons_succ, i64_w, i32_w]
                 rfl
                refine pure_ (i := 15) (N := some 73) (v := ?_) (a' := ?_) #[true,true,true,true,true,true,true,true,true,true,true,true,true,true,true,true,false] rfl rfl (any_of HT_.out (by kernel_rfl)) (fun _ _ _ h => h) (Or.inl ⟨by rfl,?_⟩) ?_ ?_
                rotate_left
                ·intro w'
                 go_simp
                 with_reducible rfl
                rotate_left
                ·simp only [Act.put, List.setIfInBounds_toArray, List.set_cons_zero, List.set_cons_succ, i64_w, i32_w]
                 rfl
                refine pure_ (i := 16) (N := some 74) (v := ?_) (a' := ?_) #[true,true,true,true,true,true,true,true,true,true,true,true,true,true,true,true,true] rfl rfl (any_of HT_.out (by kernel_rfl)) (fun _ _ _ h => h) (Or.inl ⟨by rfl,?_⟩) ?_ ?_
                rotate_left
                ·intro w'
                 go_simp
                 with_reducible rfl
                rotate_left
                ·simp only [Act.put, List.setIfInBounds_toArray, List.set_cons_zero, List.set_cons_succ, i64_w, i32_w]
                 rfl
                refine done_ (done_of HT_.out (by kernel_rfl)) ?_
                try go_wp2
                go_meet
                case rel => exact ⟨_,(((strOfNums (rd_L2 t412 x10_2)).toList != (strOfNums y427).toList)),(by first|rfl|(simp;done)|(simp [*];done)),H',⟨by have := HJ7.out;have := HK2.out;first|omega|exact Nat.le_refl _⟩,⟨by (with_reducible repeat (first|apply Kd.S_alloc|apply Kd.S_drewN|apply Kd.S_drew));exact Kd.S_mono HO_7.out (fun _ hk => (by first|exact hk.2|exact hk.1|exact hk.1.2|exact hk.1.1))⟩,⟨by (with_reducible repeat (first|apply Kd.S_alloc|apply Kd.S_drewN|apply Kd.S_drew));exact Kd.S_mono HO_8.out (fun _ hk => (by first|exact hk.2|exact hk.1|exact hk.1.2|exact hk.1.1))⟩,⟨by (with_reducible repeat (first|refine blk_drewN ?_ _|refine blk_drew ?_|refine blk_alloc ?_ _));exact BK425.out⟩,⟨by repeat (first|(with_reducible first|exact HB.out|apply below_alloc|apply pw_below_drewN|apply below_drew1|refine below_set ?_ GE425.out)|exact HB.out)⟩⟩
               ·rw [if_neg c35] at H
                exact absurd H (by simp)
             ·rw [if_neg c31] at H
              have c31b0 : (t424 == 0) = false := beq_eq_false_iff_ne.mpr c31
              have c31b1 : (t424 != 0) = true := bne_iff_ne.mpr c31
              (first | rw [c31b0] | (simp only [i64_w, i32_w]; rw [c31b0]) | skip)
              have H' := Aside0.mk H
              clear H
              try go_wp2
              have n0_ : Aside0 (Kd.S (Kd.slice 5 (Kd.int .u8)) 36 (((w27.setCell ⟨gb425,0,none⟩ (.int .i64 t421)).setCell ⟨gb425,1,none⟩ (.int .i64 t422)).setCell ⟨gb425,2,none⟩ (.int .i64 t423)) w.heap.size (fun k_ => some k_ ≠ (.slice (some ad419) t413.length co23 : Value).ownBlock) (.slice (some ad420) t412.length co24) t412) := ⟨by (with_reducible repeat (first|apply Kd.S_alloc|apply Kd.S_drewN|apply Kd.S_drew));exact Kd.S_mono (Kd.S_far (p := ⟨gb425,2,none⟩) (Kd.S_far (p := ⟨gb425,1,none⟩) (Kd.S_far (p := ⟨gb425,0,none⟩) (Kd.S_types HO_7.out BK425.out (by decide)) (fun _ hk => hk.2) (.int .i64 t421)) (fun _ hk => hk.2) (.int .i64 t422)) (fun _ hk => hk.2) (.int .i64 t423)) (fun _ hk => hk.1)⟩
              have n1_ : Aside0 (Kd.S (Kd.slice 5 (Kd.int .u8)) 36 (((w27.setCell ⟨gb425,0,none⟩ (.int .i64 t421)).setCell ⟨gb425,1,none⟩ (.int .i64 t422)).setCell ⟨gb425,2,none⟩ (.int .i64 t423)) w.heap.size (fun k_ => some k_ ≠ (.slice (some ad420) t412.length co24 : Value).ownBlock) (.slice (some ad419) t413.length co23) t413) := ⟨by (with_reducible repeat (first|apply Kd.S_alloc|apply Kd.S_drewN|apply Kd.S_drew));exact Kd.S_mono (Kd.S_far (p := ⟨gb425,2,none⟩) (Kd.S_far (p := ⟨gb425,1,none⟩) (Kd.S_far (p := ⟨gb425,0,none⟩) (Kd.S_types HO_8.out BK425.out (by decide)) (fun _ hk => hk.2) (.int .i64 t421)) (fun _ hk => hk.2) (.int .i64 t422)) (fun _ hk => hk.2) (.int .i64 t423)) (fun _ hk => hk.1)⟩
              have n2_ : Aside0 (Kd.R (Kd.int .u8) 5 (((w27.setCell ⟨gb425,0,none⟩ (.int .i64 t421)).setCell ⟨gb425,1,none⟩ (.int .i64 t422)).setCell ⟨gb425,2,none⟩ (.int .i64 t423)) w.heap.size (fun k_ => some k_ ≠ (.slice (some ad420) t412.length co24 : Value).ownBlock ∧ some k_ ≠ (.slice (some ad419) t413.length co23 : Value).ownBlock) (.slice A419_0 (rd_L2 t413 x10_2).length c419_0) (rd_L2 t413 x10_2)) := ⟨by (with_reducible repeat (first|apply Kd.R_alloc|apply Kd.R_drewN|apply Kd.R_drew));exact Kd.R_mono (Kd.R_far (p := ⟨gb425,2,none⟩) (Kd.R_far (p := ⟨gb425,1,none⟩) (Kd.R_far (p := ⟨gb425,0,none⟩) (Kd.R_types HL419_0.out BK425.out (by decide)) (fun _ hk => hk.2) (.int .i64 t421)) (fun _ hk => hk.2) (.int .i64 t422)) (fun _ hk => hk.2) (.int .i64 t423)) (fun _ hk => ⟨hk.1.1,hk.1.2⟩)⟩
              have n3_ : Aside0 (Kd.R (Kd.int .u8) 5 (((w27.setCell ⟨gb425,0,none⟩ (.int .i64 t421)).setCell ⟨gb425,1,none⟩ (.int .i64 t422)).setCell ⟨gb425,2,none⟩ (.int .i64 t423)) w.heap.size (fun k_ => some k_ ≠ (.slice (some ad420) t412.length co24 : Value).ownBlock ∧ some k_ ≠ (.slice (some ad419) t413.length co23 : Value).ownBlock) (.slice A420_0 (rd_L2 t412 x10_2).length c420_0) (rd_L2 t412 x10_2)) := ⟨by (with_reducible repeat (first|apply Kd.R_alloc|apply Kd.R_drewN|apply Kd.R_drew));exact Kd.R_mono (Kd.R_far (p := ⟨gb425,2,none⟩) (Kd.R_far (p := ⟨gb425,1,none⟩) (Kd.R_far (p := ⟨gb425,0,none⟩) (Kd.R_types HL420_0.out BK425.out (by decide)) (fun _ hk => hk.2) (.int .i64 t421)) (fun _ hk => hk.2) (.int .i64 t422)) (fun _ hk => hk.2) (.int .i64 t423)) (fun _ hk => ⟨hk.1.1,hk.1.2⟩)⟩
              have n4_ : Aside0 ((((w27.setCell ⟨gb425,0,none⟩ (.int .i64 t421)).setCell ⟨gb425,1,none⟩ (.int .i64 t422)).setCell ⟨gb425,2,none⟩ (.int .i64 t423)).heap[gb425]? = some (.cells #[.int .i64 t421,.int .i64 t422,.int .i64 t423] 40 (0,0))) := ⟨by (with_reducible repeat (first|refine blk_drewN ?_ _|refine blk_drew ?_|refine blk_alloc ?_ _));refine blk_put (cs := #[.int .i64 t421,.int .i64 t422,.int .i64 0]) ?_ 2 _ rfl;(with_reducible repeat (first|refine blk_drewN ?_ _|refine blk_drew ?_|refine blk_alloc ?_ _));refine blk_put (cs := #[.int .i64 t421,.int .i64 0,.int .i64 0]) ?_ 1 _ rfl;(with_reducible repeat (first|refine blk_drewN ?_ _|refine blk_drew ?_|refine blk_alloc ?_ _));refine blk_put (cs := #[.int .i64 0,.int .i64 0,.int .i64 0]) ?_ 0 _ rfl;(with_reducible repeat (first|refine blk_drewN ?_ _|refine blk_drew ?_|refine blk_alloc ?_ _));exact BK425.out⟩
              have n5_ : Aside0 (Below w.heap.size w (((w27.setCell ⟨gb425,0,none⟩ (.int .i64 t421)).setCell ⟨gb425,1,none⟩ (.int .i64 t422)).setCell ⟨gb425,2,none⟩ (.int .i64 t423))) := ⟨by repeat (first|(with_reducible first|exact HB.out|apply below_alloc|apply pw_below_drewN|apply below_drew1|refine below_set ?_ GE425.out)|exact HB.out)⟩
              (try clear HO_7)
              (try clear HO_8)
              (try clear HL419_0)
              (try clear HL420_0)
              (try clear BK425)
              (try clear HB)
              (try simp only [IntKind.wrap_u8, IntKind.wrap_u32])
              generalize (((w27.setCell ⟨gb425,0,none⟩ (.int .i64 t421)).setCell ⟨gb425,1,none⟩ (.int .i64 t422)).setCell ⟨gb425,2,none⟩ (.int .i64 t423)) = w43 at n0_ n1_ n2_ n3_ n4_ n5_ ⊢
              have HO_7 := n0_
              have HO_8 := n1_
              have HL419_0 := n2_
              have HL420_0 := n3_
              have BK425 := n4_
              have HB := n5_
              clear n0_ n1_ n2_ n3_ n4_ n5_
              (try (rw [drewN_self w43];generalize hq_ : World.drewN w43 _ = w43;have n0_ : Aside0 (Kd.R (Kd.int .u8) 5 w43 w.heap.size (fun k_ => some k_ ≠ (.slice (some ad420) t412.length co24 : Value).ownBlock ∧ some k_ ≠ (.slice (some ad419) t413.length co23 : Value).ownBlock) (.slice A419_0 (rd_L2 t413 x10_2).length c419_0) (rd_L2 t413 x10_2)) := ⟨by rw [← hq_];exact (by (with_reducible repeat (first|apply Kd.R_alloc|apply Kd.R_drewN|apply Kd.R_drew));exact HL419_0.out)⟩;have n1_ : Aside0 (Kd.R (Kd.int .u8) 5 w43 w.heap.size (fun k_ => some k_ ≠ (.slice (some ad420) t412.length co24 : Value).ownBlock ∧ some k_ ≠ (.slice (some ad419) t413.length co23 : Value).ownBlock) (.slice A420_0 (rd_L2 t412 x10_2).length c420_0) (rd_L2 t412 x10_2)) := ⟨by rw [← hq_];exact (by (with_reducible repeat (first|apply Kd.R_alloc|apply Kd.R_drewN|apply Kd.R_drew));exact HL420_0.out)⟩;have n2_ : Aside0 (Kd.S (Kd.slice 5 (Kd.int .u8)) 36 w43 w.heap.size (fun k_ => some k_ ≠ (.slice (some ad419) t413.length co23 : Value).ownBlock) (.slice (some ad420) t412.length co24) t412) := ⟨by rw [← hq_];exact (by (with_reducible repeat (first|apply Kd.S_alloc|apply Kd.S_drewN|apply Kd.S_drew));exact HO_7.out)⟩;have n3_ : Aside0 (Kd.S (Kd.slice 5 (Kd.int .u8)) 36 w43 w.heap.size (fun k_ => some k_ ≠ (.slice (some ad420) t412.length co24 : Value).ownBlock) (.slice (some ad419) t413.length co23) t413) := ⟨by rw [← hq_];exact (by (with_reducible repeat (first|apply Kd.S_alloc|apply Kd.S_drewN|apply Kd.S_drew));exact HO_8.out)⟩;have n4_ : Aside0 (w43.heap[gb425]? = some (.cells #[.int .i64 t421,.int .i64 t422,.int .i64 t423] 40 (0,0))) := ⟨by rw [← hq_];exact (by (with_reducible repeat (first|refine blk_drewN ?_ _|refine blk_drew ?_|refine blk_alloc ?_ _));exact BK425.out)⟩;have n5_ : Aside0 (Below w.heap.size w w43) := ⟨by rw [← hq_];exact (by repeat (first|(with_reducible first|exact HB.out|apply below_alloc|apply pw_below_drewN|apply below_drew1|refine below_set ?_ GE425.out)|exact HB.out))⟩;clear HL419_0 HL420_0 HO_7 HO_8 BK425 HB hq_;have HL419_0 := n0_;have HL420_0 := n1_;have HO_7 := n2_;have HO_8 := n3_;have BK425 := n4_;have HB := n5_;clear n0_ n1_ n2_ n3_ n4_ n5_))
              have n0_ := Aside0.mk (Kd.S_drew HO_7.out)
              have n1_ := Aside0.mk (Kd.S_drew HO_8.out)
              have n2_ := Aside0.mk (Kd.R_drew HL419_0.out)
              have n3_ := Aside0.mk (Kd.R_drew HL420_0.out)
              have n4_ := Aside0.mk (blk_drew BK425.out)
              have n5_ := Aside0.mk (below_drew1 HB.out)
              clear HO_7
              clear HO_8
              clear HL419_0
              clear HL420_0
              clear BK425
              clear HB
              have HO_7 := n0_
              have HO_8 := n1_
              have HL419_0 := n2_
              have HL420_0 := n3_
              have BK425 := n4_
              have HB := n5_
              clear n0_ n1_ n2_ n3_ n4_ n5_
              refine start_ (n := 17) (S := fun w' => True) (ds := []) #[false,false,false,false,false,false,false,false,false,false,false,false,false,false,false,false,false] (by kernel_rfl) rfl rfl trivial (fun hHeld => ?_);refine with_tabW strakelaw15_PagePads.tab14 strakelaw15_PagePads.bits14 (fun HT_ HW_ => ?_)
              generalize w43.drew = w44 at HO_7 HO_8 HL419_0 HL420_0 BK425 HB hHeld ⊢
              refine pure_ (i := 0) (N := some 58) (v := ?_) (a' := ?_) #[true,false,false,false,false,false,false,false,false,false,false,false,false,false,false,false,false] rfl rfl (any_of HT_.out (by kernel_rfl)) (fun _ _ _ h => h) (Or.inl ⟨by rfl,?_⟩) ?_ ?_
              rotate_left
              ·intro w'
               go_simp
               with_reducible rfl
              rotate_left
              ·simp only [Act.put, List.setIfInBounds_toArray, List.set_cons_zero, List.set_cons_succ, i64_w, i32_w]
               rfl
              refine pure_ (i := 1) (N := some 59) (v := ?_) (a' := ?_) #[true,true,false,false,false,false,false,false,false,false,false,false,false,false,false,false,false] rfl rfl (any_of HT_.out (by kernel_rfl)) (fun _ _ _ h => h) (Or.inl ⟨by rfl,?_⟩) ?_ ?_
              rotate_left
              ·intro w'
               go_simp
               with_reducible rfl
              rotate_left
              ·simp only [Act.put, List.setIfInBounds_toArray, List.set_cons_zero, List.set_cons_succ, i64_w, i32_w]
               rfl
              refine pure_ (i := 2) (N := some 60) (v := ?_) (a' := ?_) #[true,true,true,false,false,false,false,false,false,false,false,false,false,false,false,false,false] rfl rfl (any_of HT_.out (by kernel_rfl)) (fun _ _ _ h => h) (Or.inl ⟨by rfl,?_⟩) ?_ ?_
              rotate_left
              ·intro w'
               go_simp
               with_reducible rfl
              rotate_left
              ·simp only [Act.put, List.setIfInBounds_toArray, List.set_cons_zero, List.set_cons_succ, i64_w, i32_w]
               rfl
              refine pure_ (i := 3) (N := some 61) (v := undef) (a' := ?_) #[true,true,true,true,false,false,false,false,false,false,false,false,false,false,false,false,false] rfl rfl (any_of HT_.out (by kernel_rfl)) (fun _ _ _ h => h) (Or.inr ⟨by rfl,rfl⟩) ?_ ?_
              rotate_left
              ·simp only [Act.put, List.setIfInBounds_toArray, List.set_cons_zero, List.set_cons_succ, i64_w, i32_w]
               rfl
              refine pure_ (i := 4) (N := some 62) (v := undef) (a' := ?_) #[true,true,true,true,true,false,false,false,false,false,false,false,false,false,false,false,false] rfl rfl (any_of HT_.out (by kernel_rfl)) (fun _ _ _ h => h) (Or.inr ⟨by rfl,rfl⟩) ?_ ?_
              rotate_left
              ·simp only [Act.put, List.setIfInBounds_toArray, List.set_cons_zero, List.set_cons_succ, i64_w, i32_w]
               rfl
              refine pure_ (i := 5) (N := some 63) (v := undef) (a' := ?_) #[true,true,true,true,true,true,false,false,false,false,false,false,false,false,false,false,false] rfl rfl (any_of HT_.out (by kernel_rfl)) (fun _ _ _ h => h) (Or.inr ⟨by rfl,rfl⟩) ?_ ?_
              rotate_left
              ·simp only [Act.put, List.setIfInBounds_toArray, List.set_cons_zero, List.set_cons_succ, i64_w, i32_w]
               rfl
              refine pure_ (i := 6) (N := some 64) (v := ?_) (a' := ?_) #[true,true,true,true,true,true,true,false,false,false,false,false,false,false,false,false,false] rfl rfl (any_of HT_.out (by kernel_rfl)) (fun _ _ _ h => h) (Or.inl ⟨by rfl,?_⟩) ?_ ?_
              rotate_left
              ·intro w'
               go_simp
               with_reducible rfl
              rotate_left
              ·simp only [Act.put, List.setIfInBounds_toArray, List.set_cons_zero, List.set_cons_succ, i64_w, i32_w]
               rfl
              refine pure_ (i := 7) (N := some 65) (v := ?_) (a' := ?_) #[true,true,true,true,true,true,true,true,false,false,false,false,false,false,false,false,false] rfl rfl (any_of HT_.out (by kernel_rfl)) (fun _ _ _ h => h) (Or.inl ⟨by rfl,?_⟩) ?_ ?_
              rotate_left
              ·intro w'
               go_simp
               with_reducible rfl
              rotate_left
              ·simp only [Act.put, List.setIfInBounds_toArray, List.set_cons_zero, List.set_cons_succ, i64_w, i32_w]
               rfl
              refine pure_ (i := 8) (N := some 66) (v := undef) (a' := ?_) #[true,true,true,true,true,true,true,true,true,false,false,false,false,false,false,false,false] rfl rfl (any_of HT_.out (by kernel_rfl)) (fun _ _ _ h => h) (Or.inr ⟨by rfl,rfl⟩) ?_ ?_
              rotate_left
              ·simp only [Act.put, List.setIfInBounds_toArray, List.set_cons_zero, List.set_cons_succ, i64_w, i32_w]
               rfl
              refine pure_ (i := 9) (N := some 67) (v := undef) (a' := ?_) #[true,true,true,true,true,true,true,true,true,true,false,false,false,false,false,false,false] rfl rfl (any_of HT_.out (by kernel_rfl)) (fun _ _ _ h => h) (Or.inr ⟨by rfl,rfl⟩) ?_ ?_
              rotate_left
              ·simp only [Act.put, List.setIfInBounds_toArray, List.set_cons_zero, List.set_cons_succ, i64_w, i32_w]
               rfl
              refine pure_ (i := 10) (N := some 68) (v := undef) (a' := ?_) #[true,true,true,true,true,true,true,true,true,true,true,false,false,false,false,false,false] rfl rfl (any_of HT_.out (by kernel_rfl)) (fun _ _ _ h => h) (Or.inr ⟨by rfl,rfl⟩) ?_ ?_
              rotate_left
              ·simp only [Act.put, List.setIfInBounds_toArray, List.set_cons_zero, List.set_cons_succ, i64_w, i32_w]
               rfl
              refine pure_ (i := 11) (N := some 69) (v := undef) (a' := ?_) #[true,true,true,true,true,true,true,true,true,true,true,true,false,false,false,false,false] rfl rfl (any_of HT_.out (by kernel_rfl)) (fun _ _ _ h => h) (Or.inr ⟨by rfl,rfl⟩) ?_ ?_
              rotate_left
              ·simp only [Act.put, List.setIfInBounds_toArray, List.set_cons_zero, List.set_cons_succ, i64_w, i32_w]
               rfl
              refine pure_ (i := 12) (N := some 70) (v := undef) (a' := ?_) #[true,true,true,true,true,true,true,true,true,true,true,true,true,false,false,false,false] rfl rfl (any_of HT_.out (by kernel_rfl)) (fun _ _ _ h => h) (Or.inr ⟨by rfl,rfl⟩) ?_ ?_
              rotate_left
              ·simp only [Act.put, List.setIfInBounds_toArray, List.set_cons_zero, List.set_cons_succ, i64_w, i32_w]
               rfl
              refine pure_ (i := 13) (N := some 71) (v := undef) (a' := ?_) #[true,true,true,true,true,true,true,true,true,true,true,true,true,true,false,false,false] rfl rfl (any_of HT_.out (by kernel_rfl)) (fun _ _ _ h => h) (Or.inr ⟨by rfl,rfl⟩) ?_ ?_
              rotate_left
              ·simp only [Act.put, List.setIfInBounds_toArray, List.set_cons_zero, List.set_cons_succ, i64_w, i32_w]
               rfl
              refine pure_ (i := 14) (N := some 72) (v := undef) (a' := ?_) #[true,true,true,true,true,true,true,true,true,true,true,true,true,true,true,false,false] rfl rfl (any_of HT_.out (by kernel_rfl)) (fun _ _ _ h => h) (Or.inr ⟨by rfl,rfl⟩) ?_ ?_
              rotate_left
              ·simp only [Act.put, List.setIfInBounds_toArray, List.set_cons_zero, List.set_cons_succ, i64_w, i32_w]
               rfl
              refine pure_ (i := 15) (N := some 73) (v := undef) (a' := ?_) #[true,true,true,true,true,true,true,true,true,true,true,true,true,true,true,true,false] rfl rfl (any_of HT_.out (by kernel_rfl)) (fun _ _ _ h => h) (Or.inr ⟨by rfl,rfl⟩) ?_ ?_
              rotate_left
              ·simp only [Act.put, List.setIfInBounds_toArray, List.set_cons_zero, List.set_cons_succ, i64_w, i32_w]
               rfl
              refine pure_ (i := 16) (N := some 74) (v := ?_) (a' := ?_) #[true,true,true,true,true,true,true,true,true,true,true,true,true,true,true,true,true] rfl rfl (any_of HT_.out (by kernel_rfl)) (fun _ _ _ h => h) (Or.inl ⟨by rfl,?_⟩) ?_ ?_
              rotate_left
              ·intro w'
               go_simp
               with_reducible rfl
              rotate_left
              ·simp only [Act.put, List.setIfInBounds_toArray, List.set_cons_zero, List.set_cons_succ, i64_w, i32_w]
               rfl
              refine done_ (done_of HT_.out (by kernel_rfl)) ?_
              try go_wp2
              go_meet
              case rel => exact ⟨_,(true),(by first|rfl|(simp;done)|(simp [*];done)),H',⟨by have := HJ7.out;have := HK2.out;first|omega|exact Nat.le_refl _⟩,⟨by (with_reducible repeat (first|apply Kd.S_alloc|apply Kd.S_drewN|apply Kd.S_drew));exact HO_7.out⟩,⟨by (with_reducible repeat (first|apply Kd.S_alloc|apply Kd.S_drewN|apply Kd.S_drew));exact HO_8.out⟩,⟨by (with_reducible repeat (first|refine blk_drewN ?_ _|refine blk_drew ?_|refine blk_alloc ?_ _));exact BK425.out⟩,⟨by repeat (first|(with_reducible first|exact HB.out|apply below_alloc|apply pw_below_drewN|apply below_drew1|refine below_set ?_ GE425.out)|exact HB.out)⟩⟩
            case rest =>
             clear HC21
             try clear p2
             try clear c3
             try clear hcv3
             try clear c4
             try clear p4
             try clear q4
             try clear hx4
             try clear hcv4
             try clear c31
             try clear c31b0
             try clear c31b1
             try clear c32
             try clear c32b0
             try clear c35
             try clear c35b0
             try clear c35b1
             try clear hcv38
             try clear c41
             try clear hcv41
             try clear c42
             try clear p42
             try clear q42
             try clear hx42
             try clear hx426_0
             try clear p426
             try clear q426
             obtain ⟨kq, x74_20, rfl, HA, HJ20, HO_7, HO_8, BK425, HB⟩ := hcut
             cases kq with
             | zero => exact absurd HA.out (by simp [strakelaw15_PagePads.j2])
             | succ kj20 =>
              have H := HA.out
              clear HA
              simp only [strakelaw15_PagePads.j2] at H
              by_cases c45 : x74_20 = true
              ·subst c45
               have H1 : (some false) = some r := by rw [if_pos rfl] at H; exact H
               clear H
               have H := H1
               clear H1
               obtain rfl := Option.some.inj H
               go_wp2
               go_ret
               exact ⟨by first|rfl|(simp [errW_none,errW_some] <;> rfl)|(simp [*,errW_none,errW_some] <;> rfl),by repeat (first|(with_reducible first|exact HB.out|apply below_alloc|apply pw_below_drewN|apply below_drew1|refine below_set ?_ GE425.out)|exact HB.out)⟩
              ·replace c45 := Bool.eq_false_iff.mpr c45
               subst c45
               have H1 : (strakelaw15_PagePads.l0 kj20 a0 l1 t410 t412 t413 (wrap64 (x10_2 + 1))) = some r := by rw [if_neg (show ¬ (false = true) by decide)] at H;exact H
               clear H
               have H := H1
               clear H1
               have H' := Aside0.mk H
               clear H
               go_wp2
               go_roundg kj20
               case measure => have := HJ7.out; have := HK2.out; have := HJ20.out; omega
               case rel => exact ⟨(wrap64 (x10_2 + 1)),(by first|rfl|(simp;done)|(simp [*];done)),H',⟨by have := HJ7.out;have := HK2.out;have := HJ20.out;omega⟩,⟨by (with_reducible repeat (first|apply Kd.S_alloc|apply Kd.S_drewN|apply Kd.S_drew));exact HO_7.out⟩,⟨by (with_reducible repeat (first|apply Kd.S_alloc|apply Kd.S_drewN|apply Kd.S_drew));exact HO_8.out⟩,⟨by repeat (first|(with_reducible first|exact HB.out|apply below_alloc|apply pw_below_drewN|apply below_drew1|refine below_set ?_ GE425.out)|exact HB.out)⟩⟩
           ·rw [if_neg c19] at H
            exact absurd H (by simp)
          ·rw [if_neg c18] at H
           exact absurd H (by simp)
         ·rw [if_neg c17] at H
          exact absurd H (by simp)
        ·rw [if_neg c16] at H
         have c16b0 : decide (x10_2 < a0) = false := decide_eq_false c16
         clear c16
         by_cases c46 : t410 = true
         ·subst c46
          have H1 : (if 0 ≤ (l1.length : Int) then (if (l1.length : Int) ≤ (t412.length : Int) then (if (l1.length : Int) ≤ (t413.length : Int) then ((page_Read.f k2 (t412.drop ((l1.length : Int) : Int).toNat) (t413.drop ((l1.length : Int) : Int).toNat)).bind fun t438 => (some ((t438.length : Int) == 0))) else (none)) else (none)) else (none)) = some r := by rw [if_pos rfl] at H;exact H
          clear H
          have H := H1
          clear H1
          by_cases c47 : 0 ≤ (l1.length : Int)
          ·rw [if_pos c47] at H
           have c47b0 := eq_true c47
           have c47b1 : decide (0 ≤ (l1.length : Int)) = true := decide_eq_true c47
           clear c47
           by_cases c48 : (l1.length : Int) ≤ (t412.length : Int)
           ·rw [if_pos c48] at H
            have c48b0 := eq_true c48
            have c48b1 : decide ((l1.length : Int) ≤ (t412.length : Int)) = true := decide_eq_true c48
            clear c48
            obtain ⟨y430, hy430⟩ : ∃ y_ : List (List Int), y_ = (t412.drop ((l1.length : Int) : Int).toNat) := ⟨_, rfl⟩
            replace H : (if (l1.length : Int) ≤ (t413.length : Int) then ((page_Read.f k2 y430 (t413.drop ((l1.length : Int) : Int).toNat)).bind fun t438 => (some ((t438.length : Int) == 0))) else (none)) = some r := by first|(rw [hy430];with_reducible exact H)|(have H2_ := (Option.bind_some _ _).symm.trans H;rw [hy430];with_reducible exact H2_)|(have H2_ := (Option.bind_some _ _).symm.trans H;with_reducible exact H2_)|with_reducible exact H|(rw [hy430];exact H)|exact H
            have Ny430 := Aside0.mk hy430
            clear hy430
            have c49b0 := eq_true (of_decide_eq_true (by first|(with_reducible assumption)|assumption) : 0 ≤ (l1.length : Int))
            by_cases c50 : (l1.length : Int) ≤ (t413.length : Int)
            ·rw [if_pos c50] at H
             have c50b0 := eq_true c50
             have c50b1 : decide ((l1.length : Int) ≤ (t413.length : Int)) = true := decide_eq_true c50
             clear c50
             obtain ⟨y434, hy434⟩ : ∃ y_ : List (List Int), y_ = (t413.drop ((l1.length : Int) : Int).toNat) := ⟨_, rfl⟩
             replace H : ((page_Read.f k2 y430 y434).bind fun t438 => (some ((t438.length : Int) == 0))) = some r := by first|(rw [hy434];with_reducible exact H)|(have H2_ := (Option.bind_some _ _).symm.trans H;rw [hy434];with_reducible exact H2_)|(have H2_ := (Option.bind_some _ _).symm.trans H;with_reducible exact H2_)|with_reducible exact H|(rw [hy434];exact H)|exact H
             have Ny434 := Aside0.mk hy434
             clear hy434
             replace H := Option.bind_eq_some_iff.mp H
             obtain ⟨t438, A510, H⟩ := H
             replace H : (some ((t438.length : Int) == 0)) = some r := H
             have A51 := Aside0.mk A510
             clear A510
             obtain rfl := Option.some.inj H
             try go_wp2
             (try (rw [drewN_self wr];generalize hq_ : World.drewN wr _ = wr;have n0_ : Aside0 (Kd.S (Kd.slice 5 (Kd.int .u8)) 36 wr w.heap.size (fun k_ => some k_ ≠ (v417 : Value).ownBlock) v415 t412) := ⟨by rw [← hq_];exact (by (with_reducible repeat (first|apply Kd.S_alloc|apply Kd.S_drewN|apply Kd.S_drew));exact HO_7.out)⟩;have n1_ : Aside0 (Kd.S (Kd.slice 5 (Kd.int .u8)) 36 wr w.heap.size (fun k_ => some k_ ≠ (v415 : Value).ownBlock) v417 t413) := ⟨by rw [← hq_];exact (by (with_reducible repeat (first|apply Kd.S_alloc|apply Kd.S_drewN|apply Kd.S_drew));exact HO_8.out)⟩;have n2_ : Aside0 (Below w.heap.size w wr) := ⟨by rw [← hq_];exact (by repeat (first|(with_reducible first|exact HB.out|apply below_alloc|apply pw_below_drewN|apply below_drew1)|exact HB.out))⟩;clear HO_7 HO_8 HB hq_;have HO_7 := n0_;have HO_8 := n1_;have HB := n2_;clear n0_ n1_ n2_))
             have n0_ := Aside0.mk (Kd.S_drew HO_7.out)
             have n1_ := Aside0.mk (Kd.S_drew HO_8.out)
             have n2_ := Aside0.mk (below_drew1 HB.out)
             clear HO_7
             clear HO_8
             clear HB
             have HO_7 := n0_
             have HO_8 := n1_
             have HB := n2_
             clear n0_ n1_ n2_
             obtain ⟨Ao54, co54, eo54⟩ := Kd.S_slice HO_7.out
             (first|subst eo54|(injection eo54 with f1_ f2_ f3_;have f4_ := f1_.symm;have f5_ := f3_.symm;clear f1_ f2_ f3_;subst f4_;subst f5_))
             have q53 : ((l1.length : Int) : Int) ≤ ((t412.length : Int) : Int) := of_decide_eq_true (by first|(with_reducible assumption)|assumption)
             obtain ⟨i053, hi053, _, hsz53, _⟩ := info_parts info36
             have hroom53 : t412.length ≤ co54 := (Kd.S_reads' HO_7.out).2.1
             have hC53 : Kd.C (Kd.slice 5 (Kd.int .u8)) _ Ao54 t412.length t412 := (Kd.S_reads' HO_7.out).2.2
             have q053 : (0 : Int) ≤ ((l1.length : Int) : Int) := of_decide_eq_true (by first|(with_reducible assumption)|assumption)
             have hcut53 := cut_from (P := Try.prog) 25 36 .i64 Try.underlying25 hi053 1 hsz53 Ao54 t412.length co54 (l1.length : Int) q053 q53
             have hr53 := Kd.C_drop (m := ((l1.length : Int) : Int).toNat) (c := co54) hC53 (by omega) hroom53
             obtain ⟨A53,hA53⟩ : ∃ A1,A1 = (if co54 = ((l1.length : Int) : Int).toNat then Ao54 else (Ao54 : Option Addr).map (·.add (((l1.length : Int) : Int).toNat * 1))) := ⟨_,rfl⟩
             obtain ⟨c53, hc53⟩ : ∃ c1, c1 = co54 - ((l1.length : Int) : Int).toNat := ⟨_, rfl⟩
             have hy53 : y430.length = t412.length - ((l1.length : Int) : Int).toNat := (by rw [Ny430.out,List.length_drop] <;> omega)
             rw [show (t412).drop ((l1.length : Int) : Int).toNat = y430 from Ny430.out.symm] at hr53
             replace hr53 : Kd.C (Kd.slice 5 (Kd.int .u8)) _ A53 y430.length y430 := (by rw [hA53]; exact hr53)
             rw [← hy53, ← hA53, ← hc53] at hcut53
             have HR433 := Aside0.mk hr53
             have HC433 := Aside0.mk (show y430.length ≤ c53 from by rw [hy53,hc53];exact Nat.sub_le_sub_right hroom53 _)
             clear hr53 hC53 hroom53 hi053 hsz53 hc53
             have KY53 := Aside0.mk hy53
             have KA53 := Aside0.mk hA53
             clear hy53 hA53
             have KL53 := Aside0.mk (show ((l1.length : Int) : Int).toNat ≤ t412.length from by omega)
             replace q53 := eq_true q53
             obtain ⟨Ao56, co56, eo56⟩ := Kd.S_slice HO_8.out
             (first|subst eo56|(injection eo56 with f1_ f2_ f3_;have f4_ := f1_.symm;have f5_ := f3_.symm;clear f1_ f2_ f3_;subst f4_;subst f5_))
             have q55 : ((l1.length : Int) : Int) ≤ ((t413.length : Int) : Int) := of_decide_eq_true (by first|(with_reducible assumption)|assumption)
             obtain ⟨i055, hi055, _, hsz55, _⟩ := info_parts info36
             have hroom55 : t413.length ≤ co56 := (Kd.S_reads' HO_8.out).2.1
             have hC55 : Kd.C (Kd.slice 5 (Kd.int .u8)) _ Ao56 t413.length t413 := (Kd.S_reads' HO_8.out).2.2
             have q055 : (0 : Int) ≤ ((l1.length : Int) : Int) := of_decide_eq_true (by first|(with_reducible assumption)|assumption)
             have hcut55 := cut_from (P := Try.prog) 25 36 .i64 Try.underlying25 hi055 1 hsz55 Ao56 t413.length co56 (l1.length : Int) q055 q55
             have hr55 := Kd.C_drop (m := ((l1.length : Int) : Int).toNat) (c := co56) hC55 (by omega) hroom55
             obtain ⟨A55,hA55⟩ : ∃ A1,A1 = (if co56 = ((l1.length : Int) : Int).toNat then Ao56 else (Ao56 : Option Addr).map (·.add (((l1.length : Int) : Int).toNat * 1))) := ⟨_,rfl⟩
             obtain ⟨c55, hc55⟩ : ∃ c1, c1 = co56 - ((l1.length : Int) : Int).toNat := ⟨_, rfl⟩
             have hy55 : y434.length = t413.length - ((l1.length : Int) : Int).toNat := (by rw [Ny434.out,List.length_drop] <;> omega)
             rw [show (t413).drop ((l1.length : Int) : Int).toNat = y434 from Ny434.out.symm] at hr55
             replace hr55 : Kd.C (Kd.slice 5 (Kd.int .u8)) _ A55 y434.length y434 := (by rw [hA55]; exact hr55)
             rw [← hy55, ← hA55, ← hc55] at hcut55
             have HR437 := Aside0.mk hr55
             have HC437 := Aside0.mk (show y434.length ≤ c55 from by rw [hy55,hc55];exact Nat.sub_le_sub_right hroom55 _)
             clear hr55 hC55 hroom55 hi055 hsz55 hc55
             have KY55 := Aside0.mk hy55
             have KA55 := Aside0.mk hA55
             clear hy55 hA55
             have KL55 := Aside0.mk (show ((l1.length : Int) : Int).toNat ≤ t413.length from by omega)
             replace q55 := eq_true q55
             refine start_ (n := 15) (S := fun w' => True) (ds := []) #[false,false,false,false,false,false,false,false,false,false,false,false,false,false,false] (by kernel_rfl) rfl rfl trivial (fun hHeld => ?_);refine with_tabW strakelaw15_PagePads.tab16 strakelaw15_PagePads.bits16 (fun HT_ HW_ => ?_)
             generalize wr.drew = w52 at HO_7 HO_8 HB HR433 HR437 hHeld ⊢
             refine pure_ (i := 0) (N := some 75) (v := ?_) (a' := ?_) #[true,false,false,false,false,false,false,false,false,false,false,false,false,false,false] rfl rfl (any_of HT_.out (by kernel_rfl)) (fun _ _ _ h => h) (Or.inl ⟨by rfl,?_⟩) ?_ ?_
             rotate_left
             ·intro w'
              go_simp
              with_reducible rfl
             rotate_left
             ·simp only [Act.put, List.setIfInBounds_toArray, List.set_cons_zero, List.set_cons_succ, i64_w, i32_w]
              rfl
             refine pure_ (i := 1) (N := some 76) (v := ?_) (a' := ?_) #[true,true,false,false,false,false,false,false,false,false,false,false,false,false,false] rfl rfl (any_of HT_.out (by kernel_rfl)) (fun _ _ _ h => h) (Or.inl ⟨by rfl,?_⟩) ?_ ?_
             rotate_left
             ·intro w'
              go_simp
              with_reducible rfl
             rotate_left
             ·simp only [Act.put, List.setIfInBounds_toArray, List.set_cons_zero, List.set_cons_succ, i64_w, i32_w]
              rfl
             refine pure_ (i := 2) (N := some 77) (v := ?_) (a' := ?_) #[true,true,true,false,false,false,false,false,false,false,false,false,false,false,false] rfl rfl (any_of HT_.out (by kernel_rfl)) (fun _ _ _ h => h) (Or.inl ⟨by rfl,?_⟩) ?_ ?_
             rotate_left
             ·intro w'
              go_simp
              with_reducible rfl
             rotate_left
             ·simp only [Act.put, List.setIfInBounds_toArray, List.set_cons_zero, List.set_cons_succ, i64_w, i32_w]
              rfl
             refine pure_ (i := 3) (N := some 78) (v := ?_) (a' := ?_) #[true,true,true,true,false,false,false,false,false,false,false,false,false,false,false] rfl rfl (any_of HT_.out (by kernel_rfl)) (fun _ _ _ h => h) (Or.inl ⟨by rfl,?_⟩) ?_ ?_
             rotate_left
             ·intro w'
              go_simp
              with_reducible rfl
             rotate_left
             ·simp only [Act.put, List.setIfInBounds_toArray, List.set_cons_zero, List.set_cons_succ, i64_w, i32_w]
              rfl
             refine pure_ (i := 4) (N := some 79) (v := ?_) (a' := ?_) #[true,true,true,true,true,false,false,false,false,false,false,false,false,false,false] rfl rfl (any_of HT_.out (by kernel_rfl)) (fun _ _ _ h => h) (Or.inl ⟨by rfl,?_⟩) ?_ ?_
             rotate_left
             ·intro w'
              go_simp
              with_reducible rfl
             rotate_left
             ·simp only [Act.put, List.setIfInBounds_toArray, List.set_cons_zero, List.set_cons_succ, i64_w, i32_w]
              rfl
             refine pure_ (i := 5) (N := some 80) (v := ?_) (a' := ?_) #[true,true,true,true,true,true,false,false,false,false,false,false,false,false,false] rfl rfl (any_of HT_.out (by kernel_rfl)) (fun _ _ _ h => h) (Or.inl ⟨by rfl,?_⟩) ?_ ?_
             rotate_left
             ·intro w'
              go_simp
              with_reducible rfl
             rotate_left
             ·simp only [Act.put, List.setIfInBounds_toArray, List.set_cons_zero, List.set_cons_succ, i64_w, i32_w]
              rfl
             refine pure_ (i := 6) (N := some 81) (v := ?_) (a' := ?_) #[true,true,true,true,true,true,true,false,false,false,false,false,false,false,false] rfl rfl (any_of HT_.out (by kernel_rfl)) (fun _ _ _ h => h) (Or.inl ⟨by rfl,?_⟩) ?_ ?_
             rotate_left
             ·intro w'
              go_simp
              with_reducible rfl
             rotate_left
             ·simp only [Act.put, List.setIfInBounds_toArray, List.set_cons_zero, List.set_cons_succ, i64_w, i32_w]
              rfl
             refine pure_ (i := 7) (N := some 82) (v := ?_) (a' := ?_) #[true,true,true,true,true,true,true,true,false,false,false,false,false,false,false] rfl rfl (any_of HT_.out (by kernel_rfl)) (fun _ _ _ h => h) (Or.inl ⟨by rfl,?_⟩) ?_ ?_
             rotate_left
             ·intro w'
              go_simp
              with_reducible rfl
             rotate_left
             ·simp only [Act.put, List.setIfInBounds_toArray, List.set_cons_zero, List.set_cons_succ, i64_w, i32_w]
              rfl
             refine pure_ (i := 8) (N := some 83) (v := ?_) (a' := ?_) #[true,true,true,true,true,true,true,true,true,false,false,false,false,false,false] rfl rfl (any_of HT_.out (by kernel_rfl)) (fun _ _ _ h => h) (Or.inl ⟨by rfl,?_⟩) ?_ ?_
             rotate_left
             ·intro w'
              go_simp
              with_reducible rfl
             rotate_left
             ·simp only [Act.put, List.setIfInBounds_toArray, List.set_cons_zero, List.set_cons_succ, i64_w, i32_w]
              rfl
             refine pure_ (i := 9) (N := some 84) (v := ?_) (a' := ?_) #[true,true,true,true,true,true,true,true,true,true,false,false,false,false,false] rfl rfl (any_of HT_.out (by kernel_rfl)) (fun _ _ _ h => h) (Or.inl ⟨by rfl,?_⟩) ?_ ?_
             rotate_left
             ·intro w'
              go_simp
              with_reducible rfl
             rotate_left
             ·simp only [Act.put, List.setIfInBounds_toArray, List.set_cons_zero, List.set_cons_succ, i64_w, i32_w]
              rfl
             refine one_ (i := 10) (N := some 85) #[true,true,true,true,true,true,true,true,true,true,true,false,false,false,false] rfl rfl (one_of HT_.out (by kernel_rfl)) (by decide) (fun K hK => ?_)
             refine goes_ Try.func16 (by kernel_rfl) rfl #[.slice A53 y430.length c53,.slice A55 y434.length c55] (by rfl) rfl rfl (by (try simp only [List.map_toArray,List.map_cons,List.map_nil]);first|done|rfl|(simp only [List.length_drop,List.length_take];rfl)) ?_
             with_reducible refine (page_Read.calls k2 _ _ y430 _ _ y434 t438 _ ?side1 ?side2 ?side3 ?side4 A51.out).mono ?_
             (case side1 => repeat (first|exact (by repeat (first|(with_reducible exact HR433.out)|(with_reducible refine Kd.C_alloc ?_ _)|(with_reducible refine Kd.C_drewN ?_ _)|(with_reducible refine Kd.C_drew ?_)|exact HR433.out))|(with_reducible refine Kd.C_alloc ?_ _)|(with_reducible refine Kd.C_drewN ?_ _)|(with_reducible refine Kd.C_drew ?_)))
             (case side2 => exact HC433.out)
             (case side3 => repeat (first|exact (by repeat (first|(with_reducible exact HR437.out)|(with_reducible refine Kd.C_alloc ?_ _)|(with_reducible refine Kd.C_drewN ?_ _)|(with_reducible refine Kd.C_drew ?_)|exact HR437.out))|(with_reducible refine Kd.C_alloc ?_ _)|(with_reducible refine Kd.C_drewN ?_ _)|(with_reducible refine Kd.C_drew ?_)))
             (case side4 => exact HC437.out)
             rintro e w57 ⟨v439, rfl, ho0, hb⟩
             refine ⟨_, rfl, ?_⟩
             have n0_ := Aside0.mk (Kd.S_below (by (with_reducible repeat (first|apply Kd.S_alloc|apply Kd.S_drewN|apply Kd.S_drew));exact HO_7.out) hb)
             have n1_ := Aside0.mk (Kd.S_below (by (with_reducible repeat (first|apply Kd.S_alloc|apply Kd.S_drewN|apply Kd.S_drew));exact HO_8.out) hb)
             have n2_ := Aside0.mk (Kd.S_lower ho0 (below_size (by repeat (first|(with_reducible first|exact HB.out|apply below_alloc|apply pw_below_drewN|apply below_drew1)|exact HB.out))))
             have n3_ := Aside0.mk (Kd.C_below (by repeat (first|(with_reducible exact HR433.out)|(with_reducible refine Kd.C_alloc ?_ _)|(with_reducible refine Kd.C_drewN ?_ _)|(with_reducible refine Kd.C_drew ?_)|exact HR433.out)) hb)
             have n4_ := Aside0.mk (Kd.C_below (by repeat (first|(with_reducible exact HR437.out)|(with_reducible refine Kd.C_alloc ?_ _)|(with_reducible refine Kd.C_drewN ?_ _)|(with_reducible refine Kd.C_drew ?_)|exact HR437.out)) hb)
             have n5_ := Aside0.mk (below_step (by repeat (first|(with_reducible first|exact HB.out|apply below_alloc|apply pw_below_drewN|apply below_drew1)|exact HB.out)) hb)
             clear HO_7
             clear HO_8
             clear HR433
             clear HR437
             clear HB
             have HO_7 := n0_
             have HO_8 := n1_
             have HO440 := n2_
             have HR433 := n3_
             have HR437 := n4_
             have HB := n5_
             clear n0_ n1_ n2_ n3_ n4_ n5_
             (try clear hb)
             (try clear hb2)
             (try clear hk)
             (try clear hi)
             (try clear ho0)
             obtain ⟨Ao58, co58, eo58⟩ := Kd.S_slice HO440.out
             (first|subst eo58|(injection eo58 with f1_ f2_ f3_;have f4_ := f1_.symm;have f5_ := f3_.symm;clear f1_ f2_ f3_;subst f4_;subst f5_))
             refine hK.out _ _ trivial (fun hHeld => ?_)
             clear hK K
             refine norm_ (a' := ?_) ?_ ?_
             rotate_left
             ·show Act.put _ (some 85) _ = _
              simp only [Act.put, List.setIfInBounds_toArray, List.set_cons_zero, List.set_cons_succ, i64_w, i32_w]
              rfl
             refine pure_ (i := 11) (N := some 86) (v := ?_) (a' := ?_) #[true,true,true,true,true,true,true,true,true,true,true,true,false,false,false] rfl rfl (any_of HT_.out (by kernel_rfl)) (fun _ _ _ h => h) (Or.inl ⟨by rfl,?_⟩) ?_ ?_
             rotate_left
             ·intro w'
              go_simp
              with_reducible rfl
             rotate_left
             ·simp only [Act.put, List.setIfInBounds_toArray, List.set_cons_zero, List.set_cons_succ, i64_w, i32_w]
              rfl
             refine pure_ (i := 12) (N := some 87) (v := ?_) (a' := ?_) #[true,true,true,true,true,true,true,true,true,true,true,true,true,false,false] rfl rfl (any_of HT_.out (by kernel_rfl)) (fun _ _ _ h => h) (Or.inl ⟨by rfl,?_⟩) ?_ ?_
             rotate_left
             ·intro w'
              go_simp
              with_reducible rfl
             rotate_left
             ·simp only [Act.put, List.setIfInBounds_toArray, List.set_cons_zero, List.set_cons_succ, i64_w, i32_w]
              rfl
             refine pure_ (i := 13) (N := some 88) (v := ?_) (a' := ?_) #[true,true,true,true,true,true,true,true,true,true,true,true,true,true,false] rfl rfl (any_of HT_.out (by kernel_rfl)) (fun _ _ _ h => h) (Or.inl ⟨by rfl,?_⟩) ?_ ?_
             rotate_left
             ·intro w'
              go_simp
              with_reducible rfl
             rotate_left
             ·simp only [Act.put, List.setIfInBounds_toArray, List.set_cons_zero, List.set_cons_succ, i64_w, i32_w]
              rfl
             refine pure_ (i := 14) (N := some 4) (v := ?_) (a' := ?_) #[true,true,true,true,true,true,true,true,true,true,true,true,true,true,true] rfl rfl (any_of HT_.out (by kernel_rfl)) (fun _ _ _ h => h) (Or.inl ⟨by rfl,?_⟩) ?_ ?_
             rotate_left
             ·intro w'
              go_simp
              with_reducible rfl
             rotate_left
             ·simp only [Act.put, List.setIfInBounds_toArray, List.set_cons_zero, List.set_cons_succ, i64_w, i32_w]
              rfl
             refine done_ (done_of HT_.out (by kernel_rfl)) ?_
             try go_wp2
             go_ret
             exact ⟨by first|rfl|(simp [errW_none,errW_some] <;> rfl)|(simp [*,errW_none,errW_some] <;> rfl),by repeat (first|(with_reducible first|exact HB.out|apply below_alloc|apply pw_below_drewN|apply below_drew1)|exact HB.out)⟩
            ·rw [if_neg c50] at H
             exact absurd H (by simp)
           ·rw [if_neg c48] at H
            exact absurd H (by simp)
          ·rw [if_neg c47] at H
           exact absurd H (by simp)
         ·replace c46 := Bool.eq_false_iff.mpr c46
          subst c46
          have H1 : (some false) = some r := by rw [if_neg (show ¬ (false = true) by decide)] at H; exact H
          clear H
          have H := H1
          clear H1
          obtain rfl := Option.some.inj H
          try go_wp2
          (try (rw [drewN_self wr];generalize hq_ : World.drewN wr _ = wr;have n0_ : Aside0 (Kd.S (Kd.slice 5 (Kd.int .u8)) 36 wr w.heap.size (fun k_ => some k_ ≠ (v417 : Value).ownBlock) v415 t412) := ⟨by rw [← hq_];exact (by (with_reducible repeat (first|apply Kd.S_alloc|apply Kd.S_drewN|apply Kd.S_drew));exact HO_7.out)⟩;have n1_ : Aside0 (Kd.S (Kd.slice 5 (Kd.int .u8)) 36 wr w.heap.size (fun k_ => some k_ ≠ (v415 : Value).ownBlock) v417 t413) := ⟨by rw [← hq_];exact (by (with_reducible repeat (first|apply Kd.S_alloc|apply Kd.S_drewN|apply Kd.S_drew));exact HO_8.out)⟩;have n2_ : Aside0 (Below w.heap.size w wr) := ⟨by rw [← hq_];exact (by repeat (first|(with_reducible first|exact HB.out|apply below_alloc|apply pw_below_drewN|apply below_drew1)|exact HB.out))⟩;clear HO_7 HO_8 HB hq_;have HO_7 := n0_;have HO_8 := n1_;have HB := n2_;clear n0_ n1_ n2_))
          have n0_ := Aside0.mk (Kd.S_drew HO_7.out)
          have n1_ := Aside0.mk (Kd.S_drew HO_8.out)
          have n2_ := Aside0.mk (below_drew1 HB.out)
          clear HO_7
          clear HO_8
          clear HB
          have HO_7 := n0_
          have HO_8 := n1_
          have HB := n2_
          clear n0_ n1_ n2_
          refine start_ (n := 15) (S := fun w' => True) (ds := []) #[false,false,false,false,false,false,false,false,false,false,false,false,false,false,false] (by kernel_rfl) rfl rfl trivial (fun hHeld => ?_);refine with_tabW strakelaw15_PagePads.tab16 strakelaw15_PagePads.bits16 (fun HT_ HW_ => ?_)
          generalize wr.drew = w59 at HO_7 HO_8 HB hHeld ⊢
          refine pure_ (i := 0) (N := some 75) (v := ?_) (a' := ?_) #[true,false,false,false,false,false,false,false,false,false,false,false,false,false,false] rfl rfl (any_of HT_.out (by kernel_rfl)) (fun _ _ _ h => h) (Or.inl ⟨by rfl,?_⟩) ?_ ?_
          rotate_left
          ·intro w'
           go_simp
           with_reducible rfl
          rotate_left
          ·simp only [Act.put, List.setIfInBounds_toArray, List.set_cons_zero, List.set_cons_succ, i64_w, i32_w]
           rfl
          refine pure_ (i := 1) (N := some 76) (v := ?_) (a' := ?_) #[true,true,false,false,false,false,false,false,false,false,false,false,false,false,false] rfl rfl (any_of HT_.out (by kernel_rfl)) (fun _ _ _ h => h) (Or.inl ⟨by rfl,?_⟩) ?_ ?_
          rotate_left
          ·intro w'
           go_simp
           with_reducible rfl
          rotate_left
          ·simp only [Act.put, List.setIfInBounds_toArray, List.set_cons_zero, List.set_cons_succ, i64_w, i32_w]
           rfl
          refine pure_ (i := 2) (N := some 77) (v := undef) (a' := ?_) #[true,true,true,false,false,false,false,false,false,false,false,false,false,false,false] rfl rfl (any_of HT_.out (by kernel_rfl)) (fun _ _ _ h => h) (Or.inr ⟨by rfl,rfl⟩) ?_ ?_
          rotate_left
          ·simp only [Act.put, List.setIfInBounds_toArray, List.set_cons_zero, List.set_cons_succ, i64_w, i32_w]
           rfl
          refine pure_ (i := 3) (N := some 78) (v := undef) (a' := ?_) #[true,true,true,true,false,false,false,false,false,false,false,false,false,false,false] rfl rfl (any_of HT_.out (by kernel_rfl)) (fun _ _ _ h => h) (Or.inr ⟨by rfl,rfl⟩) ?_ ?_
          rotate_left
          ·simp only [Act.put, List.setIfInBounds_toArray, List.set_cons_zero, List.set_cons_succ, i64_w, i32_w]
           rfl
          refine pure_ (i := 4) (N := some 79) (v := undef) (a' := ?_) #[true,true,true,true,true,false,false,false,false,false,false,false,false,false,false] rfl rfl (any_of HT_.out (by kernel_rfl)) (fun _ _ _ h => h) (Or.inr ⟨by rfl,rfl⟩) ?_ ?_
          rotate_left
          ·simp only [Act.put, List.setIfInBounds_toArray, List.set_cons_zero, List.set_cons_succ, i64_w, i32_w]
           rfl
          refine pure_ (i := 5) (N := some 80) (v := undef) (a' := ?_) #[true,true,true,true,true,true,false,false,false,false,false,false,false,false,false] rfl rfl (any_of HT_.out (by kernel_rfl)) (fun _ _ _ h => h) (Or.inr ⟨by rfl,rfl⟩) ?_ ?_
          rotate_left
          ·simp only [Act.put, List.setIfInBounds_toArray, List.set_cons_zero, List.set_cons_succ, i64_w, i32_w]
           rfl
          refine pure_ (i := 6) (N := some 81) (v := undef) (a' := ?_) #[true,true,true,true,true,true,true,false,false,false,false,false,false,false,false] rfl rfl (any_of HT_.out (by kernel_rfl)) (fun _ _ _ h => h) (Or.inr ⟨by rfl,rfl⟩) ?_ ?_
          rotate_left
          ·simp only [Act.put, List.setIfInBounds_toArray, List.set_cons_zero, List.set_cons_succ, i64_w, i32_w]
           rfl
          refine pure_ (i := 7) (N := some 82) (v := undef) (a' := ?_) #[true,true,true,true,true,true,true,true,false,false,false,false,false,false,false] rfl rfl (any_of HT_.out (by kernel_rfl)) (fun _ _ _ h => h) (Or.inr ⟨by rfl,rfl⟩) ?_ ?_
          rotate_left
          ·simp only [Act.put, List.setIfInBounds_toArray, List.set_cons_zero, List.set_cons_succ, i64_w, i32_w]
           rfl
          refine pure_ (i := 8) (N := some 83) (v := undef) (a' := ?_) #[true,true,true,true,true,true,true,true,true,false,false,false,false,false,false] rfl rfl (any_of HT_.out (by kernel_rfl)) (fun _ _ _ h => h) (Or.inr ⟨by rfl,rfl⟩) ?_ ?_
          rotate_left
          ·simp only [Act.put, List.setIfInBounds_toArray, List.set_cons_zero, List.set_cons_succ, i64_w, i32_w]
           rfl
          refine pure_ (i := 9) (N := some 84) (v := undef) (a' := ?_) #[true,true,true,true,true,true,true,true,true,true,false,false,false,false,false] rfl rfl (any_of HT_.out (by kernel_rfl)) (fun _ _ _ h => h) (Or.inr ⟨by rfl,rfl⟩) ?_ ?_
          rotate_left
          ·simp only [Act.put, List.setIfInBounds_toArray, List.set_cons_zero, List.set_cons_succ, i64_w, i32_w]
           rfl
          refine pure_ (i := 10) (N := some 85) (v := undef) (a' := ?_) #[true,true,true,true,true,true,true,true,true,true,true,false,false,false,false] rfl rfl (any_of HT_.out (by kernel_rfl)) (fun _ _ _ h => h) (Or.inr ⟨by rfl,rfl⟩) ?_ ?_
          rotate_left
          ·simp only [Act.put, List.setIfInBounds_toArray, List.set_cons_zero, List.set_cons_succ, i64_w, i32_w]
           rfl
          refine pure_ (i := 11) (N := some 86) (v := undef) (a' := ?_) #[true,true,true,true,true,true,true,true,true,true,true,true,false,false,false] rfl rfl (any_of HT_.out (by kernel_rfl)) (fun _ _ _ h => h) (Or.inr ⟨by rfl,rfl⟩) ?_ ?_
          rotate_left
          ·simp only [Act.put, List.setIfInBounds_toArray, List.set_cons_zero, List.set_cons_succ, i64_w, i32_w]
           rfl
          refine pure_ (i := 12) (N := some 87) (v := undef) (a' := ?_) #[true,true,true,true,true,true,true,true,true,true,true,true,true,false,false] rfl rfl (any_of HT_.out (by kernel_rfl)) (fun _ _ _ h => h) (Or.inr ⟨by rfl,rfl⟩) ?_ ?_
          rotate_left
          ·simp only [Act.put, List.setIfInBounds_toArray, List.set_cons_zero, List.set_cons_succ, i64_w, i32_w]
           rfl
          refine pure_ (i := 13) (N := some 88) (v := ?_) (a' := ?_) #[true,true,true,true,true,true,true,true,true,true,true,true,true,true,false] rfl rfl (any_of HT_.out (by kernel_rfl)) (fun _ _ _ h => h) (Or.inl ⟨by rfl,?_⟩) ?_ ?_
          rotate_left
          ·intro w'
           go_simp
           with_reducible rfl
          rotate_left
          ·simp only [Act.put, List.setIfInBounds_toArray, List.set_cons_zero, List.set_cons_succ, i64_w, i32_w]
           rfl
          refine pure_ (i := 14) (N := some 4) (v := ?_) (a' := ?_) #[true,true,true,true,true,true,true,true,true,true,true,true,true,true,true] rfl rfl (any_of HT_.out (by kernel_rfl)) (fun _ _ _ h => h) (Or.inl ⟨by rfl,?_⟩) ?_ ?_
          rotate_left
          ·intro w'
           go_simp
           with_reducible rfl
          rotate_left
          ·simp only [Act.put, List.setIfInBounds_toArray, List.set_cons_zero, List.set_cons_succ, i64_w, i32_w]
           rfl
          refine done_ (done_of HT_.out (by kernel_rfl)) ?_
          try go_wp2
          go_ret
          exact ⟨by first|rfl|(simp [errW_none,errW_some] <;> rfl)|(simp [*,errW_none,errW_some] <;> rfl),by repeat (first|(with_reducible first|exact HB.out|apply below_alloc|apply pw_below_drewN|apply below_drew1)|exact HB.out)⟩
  ·rw [if_neg c7] at H
   have c7b0 : (t414 == 0) = false := beq_eq_false_iff_ne.mpr c7
   have c7b1 : (t414 != 0) = true := bne_iff_ne.mpr c7
   obtain rfl := Option.some.inj H
   go_enter Try.func7, Try.ntmps7
   go_wp2_with (first|((with_reducible refine gate_callee (f := 9) rfl ?_);refine goesL_ (some 13) rfl rfl Try.func9 (by kernel_rfl) rfl #[] rfl (by (try simp only [List.map_toArray,List.map_cons,List.map_nil]);first|done|rfl|(simp only [List.length_drop,List.length_take];rfl)) ?_;(with_reducible refine (strakelaw15_awake.calls k  t410 _ A3.out).mono ?_);rintro e w60 ⟨rfl,hb⟩;refine ⟨_,rfl,?_⟩;have n0_ := Aside0.mk (below_step (by repeat (first|(with_reducible first|exact HB.out|apply below_alloc|apply pw_below_drewN|apply below_drew1)|exact HB.out)) hb);clear HB;have HB := n0_;clear n0_;(try clear hb);(try clear hb2);(try clear hk);(try clear hi))|((with_reducible refine gate_callee (f := 10) rfl ?_);refine goesL_ (some 15) rfl rfl Try.func10 (by kernel_rfl) rfl #[.slice A1 l1.length c1] rfl (by (try simp only [List.map_toArray,List.map_cons,List.map_nil]);first|done|rfl|(simp only [List.length_drop,List.length_take];rfl)) ?_;(with_reducible refine (strakelaw15_slim.calls k _ _ l1 true _ ?side1 ?side2 A4.out).mono ?_);(case side1 => repeat (first|exact (Kd.C_below HR1.out HB.out)|(with_reducible refine Kd.C_alloc ?_ _)|(with_reducible refine Kd.C_drewN ?_ _)|(with_reducible refine Kd.C_drew ?_)));(case side2 => exact HC1.out);rintro e w' ⟨rfl,⟨nd,rfl⟩⟩;refine ⟨_,rfl,?_⟩)|((with_reducible refine gate_callee (f := 11) rfl ?_);refine goesL_ (some 22) rfl rfl Try.func11 (by kernel_rfl) rfl #[.int .i64 a0,.slice A1 l1.length c1] rfl (by (try simp only [List.map_toArray,List.map_cons,List.map_nil]);first|done|rfl|(simp only [List.length_drop,List.length_take];rfl)) ?_;(with_reducible refine (page_Build.calls k a0 _ _ l1 t412 t413 t414 _ ?side1 ?side2 A6.out).mono ?_);(case side1 => repeat (first|exact (Kd.C_below HR1.out (by repeat (first|(with_reducible first|exact HB.out|apply below_alloc|apply pw_below_drewN|apply below_drew1)|exact HB.out)))|(with_reducible refine Kd.C_alloc ?_ _)|(with_reducible refine Kd.C_drewN ?_ _)|(with_reducible refine Kd.C_drew ?_)));(case side2 => exact HC1.out);rintro e w61 ⟨v415,v417,rfl,ho0,ho1,hb⟩;refine ⟨_,rfl,?_⟩;have n0_ := Aside0.mk (Kd.S_lower ho0 (below_size (by repeat (first|(with_reducible first|exact HB.out|apply below_alloc|apply pw_below_drewN|apply below_drew1)|exact HB.out))));have n1_ := Aside0.mk (Kd.S_lower ho1 (below_size (by repeat (first|(with_reducible first|exact HB.out|apply below_alloc|apply pw_below_drewN|apply below_drew1)|exact HB.out))));have n2_ := Aside0.mk (below_step (by repeat (first|(with_reducible first|exact HB.out|apply below_alloc|apply pw_below_drewN|apply below_drew1)|exact HB.out)) hb);clear HB;have HO416 := n0_;have HO418 := n1_;have HB := n2_;clear n0_ n1_ n2_;(try clear hb);(try clear hb2);(try clear hk);(try clear hi);(try clear ho0);(try clear ho1)))
   go_ret
   exact ⟨by first|rfl|(simp [errW_none,errW_some] <;> rfl)|(simp [*,errW_none,errW_some] <;> rfl),by repeat (first|(with_reducible first|exact HB.out|apply below_alloc|apply pw_below_drewN|apply below_drew1)|exact HB.out)⟩
 ·replace c5 := Bool.eq_false_iff.mpr c5
  subst c5
  have H1 : (some t410) = some r := by rw [if_neg (show ¬ (false = true) by decide)] at H; exact H
  clear H
  have H := H1
  clear H1
  obtain rfl := Option.some.inj H
  go_enter Try.func7, Try.ntmps7
  go_wp2_with (first|((with_reducible refine gate_callee (f := 9) rfl ?_);refine goesL_ (some 13) rfl rfl Try.func9 (by kernel_rfl) rfl #[] rfl (by (try simp only [List.map_toArray,List.map_cons,List.map_nil]);first|done|rfl|(simp only [List.length_drop,List.length_take];rfl)) ?_;(with_reducible refine (strakelaw15_awake.calls k  t410 _ A3.out).mono ?_);rintro e w62 ⟨rfl,hb⟩;refine ⟨_,rfl,?_⟩;have n0_ := Aside0.mk (below_step (by repeat (first|(with_reducible first|exact HB.out|apply below_alloc|apply pw_below_drewN|apply below_drew1)|exact HB.out)) hb);clear HB;have HB := n0_;clear n0_;(try clear hb);(try clear hb2);(try clear hk);(try clear hi))|((with_reducible refine gate_callee (f := 10) rfl ?_);refine goesL_ (some 15) rfl rfl Try.func10 (by kernel_rfl) rfl #[.slice A1 l1.length c1] rfl (by (try simp only [List.map_toArray,List.map_cons,List.map_nil]);first|done|rfl|(simp only [List.length_drop,List.length_take];rfl)) ?_;(with_reducible refine (strakelaw15_slim.calls k _ _ l1 false _ ?side1 ?side2 A4.out).mono ?_);(case side1 => repeat (first|exact (Kd.C_below HR1.out HB.out)|(with_reducible refine Kd.C_alloc ?_ _)|(with_reducible refine Kd.C_drewN ?_ _)|(with_reducible refine Kd.C_drew ?_)));(case side2 => exact HC1.out);rintro e w' ⟨rfl,⟨nd,rfl⟩⟩;refine ⟨_,rfl,?_⟩))
  go_ret
  exact ⟨by first|rfl|(simp [errW_none,errW_some] <;> rfl)|(simp [*,errW_none,errW_some] <;> rfl),by repeat (first|(with_reducible first|exact HB.out|apply below_alloc|apply pw_below_drewN|apply below_drew1)|exact HB.out)⟩

end Go.Proofs.Ythoebkkohdfgeaa.X
