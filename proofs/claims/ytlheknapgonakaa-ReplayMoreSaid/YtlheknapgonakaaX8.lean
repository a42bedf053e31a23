-- laid by wip/tools/xprint.py (our own changes over the printer)
import Derived.Test.YtlheknapgonakaaX0
import Derived.Test.YtlheknapgonakaaX1
namespace Go.Proofs.Ytlheknapgonakaa.X
open Go.RowKit Go.Proofs.YtlheknapgonakaaW.PrintWords Go.Proofs.YtlheknapgonakaaW.PrintLast Go.Proofs.YtlheknapgonakaaW.PrintMore
attribute [local go_sem] max2_int min2_int max_two min_two max_three min_three max_four min_four   -- for this text's walks alone
set_option linter.unusedVariables false
set_option linter.unusedSimpArgs false

attribute [local go_sem high] eqA33
/-! ### strakelaw18_ReplayMore: function 3 -/
mutual
def strakelaw18_ReplayMore.j0 : Nat → Bool → List (S33) → List (S33) → Bool → Int → Int → Int → Int → OSl → Option (Bool)
 | 0, _, _, _, _, _, _, _, _, _ => none
 | k + 1,x7,x8,x11,x46,x118000,x118001,x118002,x118003,x118004 => if x46 = true then (some false) else (strakelaw18_ReplayMore.l0 k x7 x8 x11 0 x118000 x118001 x118002 x118003 x118004)
def strakelaw18_ReplayMore.l0 : Nat → Bool → List (S33) → List (S33) → Int → Int → Int → Int → Int → OSl → Option (Bool)
 | 0, _, _, _, _, _, _, _, _, _ => none
 | k + 1,x7,x8,x11,x13,x118000,x118001,x118002,x118003,x118004 => if x13 < (x8.length : Int) then (if 0 ≤ x13 then (if x13 < (x11.length : Int) then (if (((rd_T33 x8 x13).f0) == ((rd_T33 x11 x13).f0) && (((rd_T33 x8 x13).f1) == ((rd_T33 x11 x13).f1) && (((rd_T33 x8 x13).f2) == ((rd_T33 x11 x13).f2)))) = true then (strakelaw18_ReplayMore.l0 k x7 x8 x11 (wrap64 (x13 + 1)) x118000 x118001 x118002 x118003 x118004) else (if x118002 = x13 then (if (!(((rd_T33 x11 x13).f0) == x118000) || (!(((rd_T33 x11 x13).f1) == x118003) || (!(((rd_T33 x11 x13).f2) == x118001)))) = true then (strakelaw18_ReplayMore.j2 k x7 x8 x11 x13 true x118000 x118001 x118002 x118003 x118004) else (if x118003 < ((rd_T33 x8 x13).f1) then (strakelaw18_ReplayMore.j2 k x7 x8 x11 x13 true x118000 x118001 x118002 x118003 x118004) else (if x118003 = ((rd_T33 x8 x13).f1) then (strakelaw18_ReplayMore.j2 k x7 x8 x11 x13 (decide (x118000 < ((rd_T33 x8 x13).f0))) x118000 x118001 x118002 x118003 x118004) else (strakelaw18_ReplayMore.j2 k x7 x8 x11 x13 false x118000 x118001 x118002 x118003 x118004)))) else (strakelaw18_ReplayMore.j2 k x7 x8 x11 x13 true x118000 x118001 x118002 x118003 x118004))) else (none)) else (none)) else (some x7)
def strakelaw18_ReplayMore.j2 : Nat → Bool → List (S33) → List (S33) → Int → Bool → Int → Int → Int → Int → OSl → Option (Bool)
 | 0, _, _, _, _, _, _, _, _, _, _ => none
 | k + 1,x7,x8,x11,x13,x114,x118000,x118001,x118002,x118003,x118004 => if x114 = true then (some false) else (strakelaw18_ReplayMore.l0 k x7 x8 x11 (wrap64 (x13 + 1)) x118000 x118001 x118002 x118003 x118004)
end
def strakelaw18_ReplayMore.f (k : Nat) (l0 : List (S27)) (a1 : Int) (a2_0 : Int) (a2_1 : Int) (a2_2 : Int) (a2_3 : Int) (a2_4 : OSl) : Option (Bool) := (strakelaw18_awake.f).bind fun t118 => (if (l0.length : Int) > 200 then (some t118) else ((replay_Newest.f l0 a1).bind fun bt119 => ((some (([] : List (S27)) : List (S27))).bind fun y123 => (if y123.length + l0.length < 2513169434916 then ((some (y123 ++ l0 : List (S27))).bind fun y126 => ((some (([(⟨a2_0,(⟨a2_1,a2_2,a2_3⟩ : S24),a2_4⟩ : S27)] : List (S27)) : List (S27))).bind fun y129 => (if y126.length + y129.length < 2513169434916 then ((replay_Newest.f (y126 ++ y129) a1).bind fun bt135 => (if (bt119.1.length : Int) = (bt135.1.length : Int) then (strakelaw18_ReplayMore.j0 k t118 bt119.1 bt135.1 (decide (bt135.2 < bt119.2)) a2_0 a2_1 a2_2 a2_3 a2_4) else (strakelaw18_ReplayMore.j0 k t118 bt119.1 bt135.1 true a2_0 a2_1 a2_2 a2_3 a2_4))) else (none)))) else (none)))))
theorem strakelaw18_ReplayMore.mono_l : ∀ k,(∀ y0 y1 y2 y3 y4 y5 y6 y7 y8,LeO (strakelaw18_ReplayMore.j0 k y0 y1 y2 y3 y4 y5 y6 y7 y8) (strakelaw18_ReplayMore.j0 (k + 1) y0 y1 y2 y3 y4 y5 y6 y7 y8)) ∧ (∀ y0 y1 y2 y3 y4 y5 y6 y7 y8,LeO (strakelaw18_ReplayMore.l0 k y0 y1 y2 y3 y4 y5 y6 y7 y8) (strakelaw18_ReplayMore.l0 (k + 1) y0 y1 y2 y3 y4 y5 y6 y7 y8)) ∧ (∀ y0 y1 y2 y3 y4 y5 y6 y7 y8 y9,LeO (strakelaw18_ReplayMore.j2 k y0 y1 y2 y3 y4 y5 y6 y7 y8 y9) (strakelaw18_ReplayMore.j2 (k + 1) y0 y1 y2 y3 y4 y5 y6 y7 y8 y9))
 | 0 => ⟨fun _ _ _ _ _ _ _ _ _ r h => by simp [strakelaw18_ReplayMore.j0] at h,fun _ _ _ _ _ _ _ _ _ r h => by simp [strakelaw18_ReplayMore.l0] at h,fun _ _ _ _ _ _ _ _ _ _ r h => by simp [strakelaw18_ReplayMore.j2] at h⟩
 | k + 1 => by
  obtain ⟨ih0, ih1, ih2⟩ := strakelaw18_ReplayMore.mono_l k
  refine ⟨?_, ?_, ?_⟩
  ·intro y0 y1 y2 y3 y4 y5 y6 y7 y8
   unfold strakelaw18_ReplayMore.j0
   repeat' first
   | (with_reducible exact ih0 _ _ _ _ _ _ _ _ _)
   | (with_reducible exact ih1 _ _ _ _ _ _ _ _ _)
   | (with_reducible exact ih2 _ _ _ _ _ _ _ _ _ _)
   | (with_reducible exact LeO.refl _)
   | (with_reducible exact LeO.none _)
   | (with_reducible refine LeO.ite ?_ ?_)
   | (with_reducible refine LeO.bind ?_ (fun _ => ?_))
   | exact ih0 _ _ _ _ _ _ _ _ _
   | exact ih1 _ _ _ _ _ _ _ _ _
   | exact ih2 _ _ _ _ _ _ _ _ _ _
   | exact LeO.none _
   | refine LeO.ite ?_ ?_
   | refine LeO.bind ?_ (fun _ => ?_)
  ·intro y0 y1 y2 y3 y4 y5 y6 y7 y8
   unfold strakelaw18_ReplayMore.l0
   repeat' first
   | (with_reducible exact ih0 _ _ _ _ _ _ _ _ _)
   | (with_reducible exact ih1 _ _ _ _ _ _ _ _ _)
   | (with_reducible exact ih2 _ _ _ _ _ _ _ _ _ _)
   | (with_reducible exact LeO.refl _)
   | (with_reducible exact LeO.none _)
   | (with_reducible refine LeO.ite ?_ ?_)
   | (with_reducible refine LeO.bind ?_ (fun _ => ?_))
   | exact ih0 _ _ _ _ _ _ _ _ _
   | exact ih1 _ _ _ _ _ _ _ _ _
   | exact ih2 _ _ _ _ _ _ _ _ _ _
   | exact LeO.none _
   | refine LeO.ite ?_ ?_
   | refine LeO.bind ?_ (fun _ => ?_)
  ·intro y0 y1 y2 y3 y4 y5 y6 y7 y8 y9
   unfold strakelaw18_ReplayMore.j2
   repeat' first
   | (with_reducible exact ih0 _ _ _ _ _ _ _ _ _)
   | (with_reducible exact ih1 _ _ _ _ _ _ _ _ _)
   | (with_reducible exact ih2 _ _ _ _ _ _ _ _ _ _)
   | (with_reducible exact LeO.refl _)
   | (with_reducible exact LeO.none _)
   | (with_reducible refine LeO.ite ?_ ?_)
   | (with_reducible refine LeO.bind ?_ (fun _ => ?_))
   | exact ih0 _ _ _ _ _ _ _ _ _
   | exact ih1 _ _ _ _ _ _ _ _ _
   | exact ih2 _ _ _ _ _ _ _ _ _ _
   | exact LeO.none _
   | refine LeO.ite ?_ ?_
   | refine LeO.bind ?_ (fun _ => ?_)
theorem strakelaw18_ReplayMore.mono : ∀ a0 a1 a2 a3 a4 a5 a6 k,LeO (strakelaw18_ReplayMore.f k a0 a1 a2 a3 a4 a5 a6) (strakelaw18_ReplayMore.f (k + 1) a0 a1 a2 a3 a4 a5 a6) := by
 intro a0 a1 a2 a3 a4 a5 a6 k
 obtain ⟨ih0, ih1, ih2⟩ := strakelaw18_ReplayMore.mono_l k
 unfold strakelaw18_ReplayMore.f
 repeat' first
   | (with_reducible exact ih0 _ _ _ _ _ _ _ _ _)
   | (with_reducible exact ih1 _ _ _ _ _ _ _ _ _)
   | (with_reducible exact ih2 _ _ _ _ _ _ _ _ _ _)
   | (with_reducible exact LeO.refl _)
   | (with_reducible exact LeO.none _)
   | (with_reducible refine LeO.ite ?_ ?_)
   | (with_reducible refine LeO.bind ?_ (fun _ => ?_))
   | exact ih0 _ _ _ _ _ _ _ _ _
   | exact ih1 _ _ _ _ _ _ _ _ _
   | exact ih2 _ _ _ _ _ _ _ _ _ _
   | exact LeO.none _
   | refine LeO.ite ?_ ?_
   | refine LeO.bind ?_ (fun _ => ?_)
def strakelaw18_ReplayMore.T12 : Bool × List (List Nat × List Nat) := (true,[([],[]),([],[]),([0,1],[0,1]),([2],[2]),([],[]),([],[]),([4,5],[4,5]),([6],[6]),([3,7],[3,7])])
def strakelaw18_ReplayMore.B12 : List Nat := [0, 0, 3, 7, 0, 0, 48, 112, 255]
theorem strakelaw18_ReplayMore.tab12 : rtab .any (opsOf Try.f3 12) = strakelaw18_ReplayMore.T12 := by kernel_rfl
theorem strakelaw18_ReplayMore.bits12 : waitsOk strakelaw18_ReplayMore.T12.2 strakelaw18_ReplayMore.B12 = true := by kernel_rfl
def strakelaw18_ReplayMore.T13 : Bool × List (List Nat × List Nat) := (true,[([],[]),([0],[0]),([1],[1]),([],[]),([2,3],[2,3]),([4],[4]),([5],[5]),([5],[5]),([6,7,5],[5,6,7]),([8,5],[5,8]),([5],[5]),([10,5],[5,10]),([5],[5]),([12,5],[5,12]),([13,5],[5,13]),([5],[5]),([15,5],[5,15]),([16,5],[5,16]),([11,14,17,5],[5,11,14,17]),([9,18,5],[5,9,18]),([5,19],[5,19]),([20,5],[20]),([21],[21]),([22,21],[21,22]),([23,21],[21,23]),([21],[21]),([21],[21]),([25,26,21],[21,25,26]),([27,21],[21,27]),([28,21],[21,28]),([24,29,21],[21,24,29]),([21,30],[21,30]),([31,21],[31]),([32],[32]),([33,32],[32,33]),([34,32],[32,34]),([32],[32]),([32],[32]),([36,37,32],[32,36,37]),([38,32],[32,38]),([39,32],[32,39]),([35,40,32],[32,35,40]),([41,32,32],[32,41]),([42],[42]),([43,42],[42,43]),([42],[42]),([42],[42]),([45,46,42],[42,45,46]),([47,42],[42,47]),([48,42],[42,48]),([44,49,42],[42,44,49]),([42,50,32],[32,42,50]),([32,51],[32,51])])
def strakelaw18_ReplayMore.B13 : List Nat := [0,1,3,0,15,31,63,63,255,511,63,1087,63,4159,12351,63,32831,98367,261183,524287,1048575,2097151,4194303,8388607,16777215,4194303,4194303,104857599,239075327,507510783,1073741823,2147483647,4294967295,8589934591,17179869183,34359738367,8589934591,8589934591,214748364799,489626271743,1039382085631,2199023255551,4398046511103,8796093022207,17592186044415,8796093022207,8796093022207,114349209288703,255086697644031,536561674354687,1125899906842623,2251799813685247,4503599627370495]
theorem strakelaw18_ReplayMore.tab13 : rtab .any (opsOf Try.f3 13) = strakelaw18_ReplayMore.T13 := by kernel_rfl
theorem strakelaw18_ReplayMore.bits13 : waitsOk strakelaw18_ReplayMore.T13.2 strakelaw18_ReplayMore.B13 = true := by kernel_rfl
set_option maxHeartbeats 8000000 in
set_option maxRecDepth 100000 in
theorem strakelaw18_ReplayMore.calls (k : Nat) (A0 : Option Addr) (c0 : Nat) (l0 : List (S27)) (a1 : Int) (a2_0 : Int) (a2_1 : Int) (a2_2 : Int) (a2_3 : Int) (a2_4 : OSl) (r : Bool) (w : World) (hr0 : Kd.C k27 w A0 l0.length l0) (hc0 : l0.length ≤ c0) (h : strakelaw18_ReplayMore.f k l0 a1 a2_0 a2_1 a2_2 a2_3 a2_4 = some r) :
  Calls Try.prog 3 #[.slice A0 l0.length c0,.int .i64 a1,.agg #[.int .i64 a2_0,.int .i64 a2_1,.int .i64 a2_2,.int .i64 a2_3,.slice a2_4.a a2_4.n a2_4.c]] w fun e w' => e = .returned (.bool r) ∧ Below w.heap.size w w' := by
 have hu27 := Try.underlying27
 have hu33 := Try.underlying33
 have HR0 := Aside0.mk hr0
 have HC0 := Aside0.mk hc0
 clear hr0 hc0
 have HB := Aside0.mk (Below.refl w.heap.size w)
 have H : ((strakelaw18_awake.f).bind fun t118 => (if (l0.length : Int) > 200 then (some t118) else ((replay_Newest.f l0 a1).bind fun bt119 => ((some (([] : List (S27)) : List (S27))).bind fun y123 => (if y123.length + l0.length < 2513169434916 then ((some (y123 ++ l0 : List (S27))).bind fun y126 => ((some (([(⟨a2_0,(⟨a2_1,a2_2,a2_3⟩ : S24),a2_4⟩ : S27)] : List (S27)) : List (S27))).bind fun y129 => (if y126.length + y129.length < 2513169434916 then ((replay_Newest.f (y126 ++ y129) a1).bind fun bt135 => (if (bt119.1.length : Int) = (bt135.1.length : Int) then (strakelaw18_ReplayMore.j0 k t118 bt119.1 bt135.1 (decide (bt135.2 < bt119.2)) a2_0 a2_1 a2_2 a2_3 a2_4) else (strakelaw18_ReplayMore.j0 k t118 bt119.1 bt135.1 true a2_0 a2_1 a2_2 a2_3 a2_4))) else (none)))) else (none)))))) = some r := h
 clear h
 replace H := Option.bind_eq_some_iff.mp H
 obtain ⟨t118, A40, H⟩ := H
 replace H : (if (l0.length : Int) > 200 then (some t118) else ((replay_Newest.f l0 a1).bind fun bt119 => ((some (([] : List (S27)) : List (S27))).bind fun y123 => (if y123.length + l0.length < 2513169434916 then ((some (y123 ++ l0 : List (S27))).bind fun y126 => ((some (([(⟨a2_0,(⟨a2_1,a2_2,a2_3⟩ : S24),a2_4⟩ : S27)] : List (S27)) : List (S27))).bind fun y129 => (if y126.length + y129.length < 2513169434916 then ((replay_Newest.f (y126 ++ y129) a1).bind fun bt135 => (if (bt119.1.length : Int) = (bt135.1.length : Int) then (strakelaw18_ReplayMore.j0 k t118 bt119.1 bt135.1 (decide (bt135.2 < bt119.2)) a2_0 a2_1 a2_2 a2_3 a2_4) else (strakelaw18_ReplayMore.j0 k t118 bt119.1 bt135.1 true a2_0 a2_1 a2_2 a2_3 a2_4))) else (none)))) else (none))))) = some r := H
 have A4 := Aside0.mk A40
 clear A40
 by_cases c5 : (l0.length : Int) > 200
 ·rw [if_pos c5] at H
  have c5b0 : decide (200 < (l0.length : Int)) = true := decide_eq_true c5
  have c5b1 : decide (200 < l0.length) = true := decide_eq_true (by omega)
  clear c5
  obtain rfl := Option.some.inj H
  go_enter Try.func3, Try.ntmps3
  go_wp2_with (first|((with_reducible refine gate_dst (N := 5) rfl ?_);refine box_event ?hg (N := 5) ?hd (cs := #[.int .i64 a2_0,.int .i64 a2_1,.int .i64 a2_2,.int .i64 a2_3,.slice a2_4.a a2_4.n a2_4.c]) (t := 27) ?hr ?_;(case hd => rfl);(case hg => rfl);(case hr => first|(go_simp;done)|(go_simp;rfl));intro gb117 hg w6 hbox hb;have n0_ := Aside0.mk (below_step (by repeat (first|(with_reducible first|exact HB.out|apply below_alloc|apply pw_below_drewN|apply below_drew1)|exact HB.out)) hb);have n1_ := Aside0.mk (hbox);have n2_ := Aside0.mk ((by rw [hg];exact (below_size (by repeat (first|(with_reducible first|exact HB.out|apply below_alloc|apply pw_below_drewN|apply below_drew1)|exact HB.out))) : w.heap.size ≤ gb117));have n3_ := Aside0.mk ((by rw [hg];exact (below_size (by repeat (first|(with_reducible first|exact HB.out|apply below_alloc|apply pw_below_drewN|apply below_drew1)|exact HB.out))) : w.heap.size ≤ gb117));clear HB;have HB := n0_;have BK117 := n1_;have GW117 := n2_;have GE117 := n3_;clear n0_ n1_ n2_ n3_;clear hb hbox hg)|((with_reducible refine gate_callee (f := 8) rfl ?_);refine goesL_ (some 14) rfl rfl Try.func8 (by kernel_rfl) rfl #[] rfl (by (try simp only [List.map_toArray,List.map_cons,List.map_nil]);first|done|rfl|(simp only [List.length_drop,List.length_take];rfl)) ?_;(with_reducible refine (strakelaw18_awake.calls  t118 _ A4.out).mono ?_);rintro e w7 ⟨rfl,hb⟩;refine ⟨_,rfl,?_⟩;have n0_ := Aside0.mk (blk_below (g := gb117) (o := .cells #[.int .i64 a2_0,.int .i64 a2_1,.int .i64 a2_2,.int .i64 a2_3,.slice a2_4.a a2_4.n a2_4.c] 27 (0,0)) (by (with_reducible repeat (first|refine blk_drewN ?_ _|refine blk_drew ?_|refine blk_alloc ?_ _));exact BK117.out) hb);have n1_ := Aside0.mk (below_step (by repeat (first|(with_reducible first|exact HB.out|apply below_alloc|apply pw_below_drewN|apply below_drew1|refine below_set ?_ GE117.out)|exact HB.out)) hb);clear BK117;clear HB;have BK117 := n0_;have HB := n1_;clear n0_ n1_;(try clear hb);(try clear hb2);(try clear hk);(try clear hi)))
  go_ret
  exact ⟨by first|rfl|(simp [errW_none,errW_some] <;> rfl)|(simp [*,errW_none,errW_some] <;> rfl),by repeat (first|(with_reducible first|exact HB.out|apply below_alloc|apply pw_below_drewN|apply below_drew1|refine below_set ?_ GE117.out)|exact HB.out)⟩
 ·rw [if_neg c5] at H
  have c5b0 : decide (200 < (l0.length : Int)) = false := decide_eq_false c5
  have c5b1 : decide (200 < l0.length) = false := decide_eq_false (by omega)
  clear c5
  replace H := Option.bind_eq_some_iff.mp H
  obtain ⟨⟨t119, t120⟩, A80, H⟩ := H
  replace H : ((some (([] : List (S27)) : List (S27))).bind fun y123 => (if y123.length + l0.length < 2513169434916 then ((some (y123 ++ l0 : List (S27))).bind fun y126 => ((some (([(⟨a2_0,(⟨a2_1,a2_2,a2_3⟩ : S24),a2_4⟩ : S27)] : List (S27)) : List (S27))).bind fun y129 => (if y126.length + y129.length < 2513169434916 then ((replay_Newest.f (y126 ++ y129) a1).bind fun bt135 => (if (t119.length : Int) = (bt135.1.length : Int) then (strakelaw18_ReplayMore.j0 k t118 t119 bt135.1 (decide (bt135.2 < t120)) a2_0 a2_1 a2_2 a2_3 a2_4) else (strakelaw18_ReplayMore.j0 k t118 t119 bt135.1 true a2_0 a2_1 a2_2 a2_3 a2_4))) else (none)))) else (none))) = some r := H
  have A8 := Aside0.mk A80
  clear A80
  obtain ⟨y123, hy123⟩ : ∃ y_ : List (S27), y_ = (([] : List (S27))) := ⟨_, rfl⟩
  replace H : (if y123.length + l0.length < 2513169434916 then ((some (y123 ++ l0 : List (S27))).bind fun y126 => ((some (([(⟨a2_0,(⟨a2_1,a2_2,a2_3⟩ : S24),a2_4⟩ : S27)] : List (S27)) : List (S27))).bind fun y129 => (if y126.length + y129.length < 2513169434916 then ((replay_Newest.f (y126 ++ y129) a1).bind fun bt135 => (if (t119.length : Int) = (bt135.1.length : Int) then (strakelaw18_ReplayMore.j0 k t118 t119 bt135.1 (decide (bt135.2 < t120)) a2_0 a2_1 a2_2 a2_3 a2_4) else (strakelaw18_ReplayMore.j0 k t118 t119 bt135.1 true a2_0 a2_1 a2_2 a2_3 a2_4))) else (none)))) else (none)) = some r := by first|(rw [hy123];with_reducible exact H)|(have H2_ := (Option.bind_some _ _).symm.trans H;rw [hy123];with_reducible exact H2_)|(have H2_ := (Option.bind_some _ _).symm.trans H;with_reducible exact H2_)|with_reducible exact H|(rw [hy123];exact H)|exact H
  have Ny123 := Aside0.mk hy123
  clear hy123
  by_cases c9 : y123.length + l0.length < 2513169434916
  ·rw [if_pos c9] at H
   have LMc9 := Aside0.mk c9
   clear c9
   obtain ⟨y126, hy126⟩ : ∃ y_ : List (S27), y_ = (y123 ++ l0) := ⟨_, rfl⟩
   replace H : ((some (([(⟨a2_0,(⟨a2_1,a2_2,a2_3⟩ : S24),a2_4⟩ : S27)] : List (S27)) : List (S27))).bind fun y129 => (if y126.length + y129.length < 2513169434916 then ((replay_Newest.f (y126 ++ y129) a1).bind fun bt135 => (if (t119.length : Int) = (bt135.1.length : Int) then (strakelaw18_ReplayMore.j0 k t118 t119 bt135.1 (decide (bt135.2 < t120)) a2_0 a2_1 a2_2 a2_3 a2_4) else (strakelaw18_ReplayMore.j0 k t118 t119 bt135.1 true a2_0 a2_1 a2_2 a2_3 a2_4))) else (none))) = some r := by first|(rw [hy126];with_reducible exact H)|(have H2_ := (Option.bind_some _ _).symm.trans H;rw [hy126];with_reducible exact H2_)|(have H2_ := (Option.bind_some _ _).symm.trans H;with_reducible exact H2_)|with_reducible exact H|(rw [hy126];exact H)|exact H
   have Ny126 := Aside0.mk hy126
   clear hy126
   obtain ⟨y129,hy129⟩ : ∃ y_ : List (S27),y_ = (([(⟨a2_0,(⟨a2_1,a2_2,a2_3⟩ : S24),a2_4⟩ : S27)] : List (S27))) := ⟨_,rfl⟩
   replace H : (if y126.length + y129.length < 2513169434916 then ((replay_Newest.f (y126 ++ y129) a1).bind fun bt135 => (if (t119.length : Int) = (bt135.1.length : Int) then (strakelaw18_ReplayMore.j0 k t118 t119 bt135.1 (decide (bt135.2 < t120)) a2_0 a2_1 a2_2 a2_3 a2_4) else (strakelaw18_ReplayMore.j0 k t118 t119 bt135.1 true a2_0 a2_1 a2_2 a2_3 a2_4))) else (none)) = some r := by first|(rw [hy129];with_reducible exact H)|(have H2_ := (Option.bind_some _ _).symm.trans H;rw [hy129];with_reducible exact H2_)|(have H2_ := (Option.bind_some _ _).symm.trans H;with_reducible exact H2_)|with_reducible exact H|(rw [hy129];exact H)|exact H
   have Ny129 := Aside0.mk hy129
   clear hy129
   by_cases c10 : y126.length + y129.length < 2513169434916
   ·rw [if_pos c10] at H
    have LMc10 := Aside0.mk c10
    clear c10
    obtain ⟨y132, hy132⟩ : ∃ y_ : List (S27), y_ = (y126 ++ y129) := ⟨_, rfl⟩
    replace H : ((replay_Newest.f y132 a1).bind fun bt135 => (if (t119.length : Int) = (bt135.1.length : Int) then (strakelaw18_ReplayMore.j0 k t118 t119 bt135.1 (decide (bt135.2 < t120)) a2_0 a2_1 a2_2 a2_3 a2_4) else (strakelaw18_ReplayMore.j0 k t118 t119 bt135.1 true a2_0 a2_1 a2_2 a2_3 a2_4))) = some r := by first|(rw [hy132];with_reducible exact H)|(have H2_ := (Option.bind_some _ _).symm.trans H;rw [hy132];with_reducible exact H2_)|(have H2_ := (Option.bind_some _ _).symm.trans H;with_reducible exact H2_)|with_reducible exact H|(rw [hy132];exact H)|exact H
    have Ny132 := Aside0.mk hy132
    clear hy132
    replace H := Option.bind_eq_some_iff.mp H
    obtain ⟨⟨t135, t136⟩, A110, H⟩ := H
    replace H : (if (t119.length : Int) = (t135.length : Int) then (strakelaw18_ReplayMore.j0 k t118 t119 t135 (decide (t136 < t120)) a2_0 a2_1 a2_2 a2_3 a2_4) else (strakelaw18_ReplayMore.j0 k t118 t119 t135 true a2_0 a2_1 a2_2 a2_3 a2_4)) = some r := H
    have A11 := Aside0.mk A110
    clear A110
    have HC12 := Aside0.mk H
    clear H
    go_enter Try.func3, Try.ntmps3
    try go_wp2_with (first|((with_reducible refine gate_dst (N := 5) rfl ?_);refine box_event ?hg (N := 5) ?hd (cs := #[.int .i64 a2_0,.int .i64 a2_1,.int .i64 a2_2,.int .i64 a2_3,.slice a2_4.a a2_4.n a2_4.c]) (t := 27) ?hr ?_;(case hd => rfl);(case hg => rfl);(case hr => first|(go_simp;done)|(go_simp;rfl));intro gb117 hg w13 hbox hb;have n0_ := Aside0.mk (below_step (by repeat (first|(with_reducible first|exact HB.out|apply below_alloc|apply pw_below_drewN|apply below_drew1)|exact HB.out)) hb);have n1_ := Aside0.mk (hbox);have n2_ := Aside0.mk ((by rw [hg];exact (below_size (by repeat (first|(with_reducible first|exact HB.out|apply below_alloc|apply pw_below_drewN|apply below_drew1)|exact HB.out))) : w.heap.size ≤ gb117));have n3_ := Aside0.mk ((by rw [hg];exact (below_size (by repeat (first|(with_reducible first|exact HB.out|apply below_alloc|apply pw_below_drewN|apply below_drew1)|exact HB.out))) : w.heap.size ≤ gb117));clear HB;have HB := n0_;have BK117 := n1_;have GW117 := n2_;have GE117 := n3_;clear n0_ n1_ n2_ n3_;clear hb hbox hg)|((with_reducible refine gate_callee (f := 8) rfl ?_);refine goesL_ (some 14) rfl rfl Try.func8 (by kernel_rfl) rfl #[] rfl (by (try simp only [List.map_toArray,List.map_cons,List.map_nil]);first|done|rfl|(simp only [List.length_drop,List.length_take];rfl)) ?_;(with_reducible refine (strakelaw18_awake.calls  t118 _ A4.out).mono ?_);rintro e w14 ⟨rfl,hb⟩;refine ⟨_,rfl,?_⟩;have n0_ := Aside0.mk (blk_below (g := gb117) (o := .cells #[.int .i64 a2_0,.int .i64 a2_1,.int .i64 a2_2,.int .i64 a2_3,.slice a2_4.a a2_4.n a2_4.c] 27 (0,0)) (by (with_reducible repeat (first|refine blk_drewN ?_ _|refine blk_drew ?_|refine blk_alloc ?_ _));exact BK117.out) hb);have n1_ := Aside0.mk (below_step (by repeat (first|(with_reducible first|exact HB.out|apply below_alloc|apply pw_below_drewN|apply below_drew1|refine below_set ?_ GE117.out)|exact HB.out)) hb);clear BK117;clear HB;have BK117 := n0_;have HB := n1_;clear n0_ n1_;(try clear hb);(try clear hb2);(try clear hk);(try clear hi))|((with_reducible refine gate_callee (f := 9) rfl ?_);refine goesL_ (some 22) rfl rfl Try.func9 (by kernel_rfl) rfl #[.slice A0 l0.length c0,.int .i64 a1] rfl (by (try simp only [List.map_toArray,List.map_cons,List.map_nil]);first|done|rfl|(simp only [List.length_drop,List.length_take];rfl)) ?_;(with_reducible refine (replay_Newest.calls _ _ l0 a1 t119 t120 _ ?side1 ?side2 A8.out).mono ?_);(case side1 => repeat (first|exact (Kd.C_below HR0.out HB.out)|(with_reducible refine Kd.C_alloc ?_ _)|(with_reducible refine Kd.C_drewN ?_ _)|(with_reducible refine Kd.C_drew ?_)));(case side2 => exact HC0.out);rintro e w15 ⟨v121,rfl,ho0,hb⟩;refine ⟨_,rfl,?_⟩;have n0_ := Aside0.mk (Kd.R_lower ho0 (below_size (by repeat (first|(with_reducible first|exact HB.out|apply below_alloc|apply pw_below_drewN|apply below_drew1|refine below_set ?_ GE117.out)|exact HB.out))));have n1_ := Aside0.mk (blk_below (g := gb117) (o := .cells #[.int .i64 a2_0,.int .i64 a2_1,.int .i64 a2_2,.int .i64 a2_3,.slice a2_4.a a2_4.n a2_4.c] 27 (0,0)) (by (with_reducible repeat (first|refine blk_drewN ?_ _|refine blk_drew ?_|refine blk_alloc ?_ _));exact BK117.out) hb);have n2_ := Aside0.mk (below_step (by repeat (first|(with_reducible first|exact HB.out|apply below_alloc|apply pw_below_drewN|apply below_drew1|refine below_set ?_ GE117.out)|exact HB.out)) hb);clear BK117;clear HB;have HO122 := n0_;have BK117 := n1_;have HB := n2_;clear n0_ n1_ n2_;(try clear hb);(try clear hb2);(try clear hk);(try clear hi);(try clear ho0)))
    (try (rw [drewN_self w15];generalize hq_ : World.drewN w15 _ = w15;have n0_ : Aside0 (Kd.R k33 33 w15 w.heap.size (fun _ => True) v121 t119) := ⟨by rw [← hq_];exact (by (with_reducible repeat (first|apply Kd.R_alloc|apply Kd.R_drewN|apply Kd.R_drew));exact HO122.out)⟩;have n1_ : Aside0 (w15.heap[gb117]? = some (.cells #[.int .i64 a2_0,.int .i64 a2_1,.int .i64 a2_2,.int .i64 a2_3,.slice a2_4.a a2_4.n a2_4.c] 27 (0,0))) := ⟨by rw [← hq_];exact (by (with_reducible repeat (first|refine blk_drewN ?_ _|refine blk_drew ?_|refine blk_alloc ?_ _));exact BK117.out)⟩;have n2_ : Aside0 (Below w.heap.size w w15) := ⟨by rw [← hq_];exact (by repeat (first|(with_reducible first|exact HB.out|apply below_alloc|apply pw_below_drewN|apply below_drew1|refine below_set ?_ GE117.out)|exact HB.out))⟩;clear HO122 BK117 HB hq_;have HO122 := n0_;have BK117 := n1_;have HB := n2_;clear n0_ n1_ n2_))
    have n0_ := Aside0.mk (Kd.R_drew HO122.out)
    have n1_ := Aside0.mk (blk_drew BK117.out)
    have n2_ := Aside0.mk (below_drew1 HB.out)
    clear HO122
    clear BK117
    clear HB
    have HO122 := n0_
    have BK117 := n1_
    have HB := n2_
    clear n0_ n1_ n2_
    refine start_ (n := 7) (S := fun w' => w'.cell? ⟨gb117,0,none⟩ = some (.int .i64 a2_0) ∧ w'.cell? ⟨gb117,1,none⟩ = some (.int .i64 a2_1) ∧ w'.cell? ⟨gb117,2,none⟩ = some (.int .i64 a2_2) ∧ w'.cell? ⟨gb117,3,none⟩ = some (.int .i64 a2_3) ∧ w'.cell? ⟨gb117,4,none⟩ = some (.slice a2_4.a a2_4.n a2_4.c)) (ds := []) #[false,false,false,false,false,false,false] (by kernel_rfl) rfl rfl ⟨(blk_cell BK117.out 0).trans rfl,(blk_cell BK117.out 1).trans rfl,(blk_cell BK117.out 2).trans rfl,(blk_cell BK117.out 3).trans rfl,(blk_cell BK117.out 4).trans rfl⟩ (fun hHeld => ?_)
    generalize w15.drew = w16 at HO122 BK117 HB hHeld ⊢
    refine pure_ (i := 1) (N := some 26) (v := ?_) (a' := ?_) #[false,true,false,false,false,false,false] rfl rfl (by kernel_rfl) (fun _ _ _ h => h) (Or.inl ⟨by rfl,?_⟩) ?_ ?_
    rotate_left
    ·intro w'
     go_simp
     with_reducible rfl
    rotate_left
    ·simp only [Act.put, qa, qb, qc, i64_w, i32_w]
     rfl
    refine take_ (i := 3) (N := some 28) (v := ?_) (a' := ?_) #[false,true,false,true,false,false,false] rfl rfl (by kernel_rfl) (fun _ _ _ h => h) (Or.inl ⟨by rfl,?_⟩) hHeld ?_ ?_
    rotate_left
    ·rintro w' ⟨s0, s1, s2, s3, s4⟩
     go_simp
     with_reducible rfl
    rotate_left
    ·simp only [Act.put, qa, qb, qc, i64_w, i32_w]
     rfl
    refine join_ (σ := Value × Value × Value) 2 #[true,true,true,true,true,false,false] (fun s_ => [(25,s_.1),(27,s_.2.1),(29,s_.2.2)]) (fun s_ w' => (w'.cell? ⟨gb117,0,none⟩ = some (.int .i64 a2_0) ∧ w'.cell? ⟨gb117,1,none⟩ = some (.int .i64 a2_1) ∧ w'.cell? ⟨gb117,2,none⟩ = some (.int .i64 a2_2) ∧ w'.cell? ⟨gb117,3,none⟩ = some (.int .i64 a2_3) ∧ w'.cell? ⟨gb117,4,none⟩ = some (.slice a2_4.a a2_4.n a2_4.c)) ∧ (Kd.R k33 33 w' w.heap.size (fun _ => True) v121 t119) ∧ (Kd.R k27 27 w' w.heap.size (fun k_ => some k_ ≠ (s_.2.2 : Value).ownBlock ∧ k_ ≠ gb117) s_.2.1 y126) ∧ (Kd.R k27 27 w' w.heap.size (fun k_ => some k_ ≠ (s_.2.1 : Value).ownBlock ∧ k_ ≠ gb117) s_.2.2 y129) ∧ (w'.heap[gb117]? = some (.cells #[.int .i64 a2_0,.int .i64 a2_1,.int .i64 a2_2,.int .i64 a2_3,.slice a2_4.a a2_4.n a2_4.c] 27 (0,0))) ∧ (Below w.heap.size w w')) ?_ ?_
    rotate_left
    ·intro hCont
     refine two_ (i := 0) (j := 4) (Ni := some 25) (Nj := some 29) #[true,true,false,true,false,false,false] #[false,true,false,true,true,false,false] rfl rfl rfl rfl (by kernel_rfl) (by decide) (by decide) (fun K hK => ?_) (fun K hK => ?_)
     ·skip
      refine Kd.R_lit_step k27 _ 27 ?hg (N := 25) ?hd (xs := ([] : List (S27))) (inner := []) (ok := fun _ => True) (okp := fun _ => True) ?hr ?hp (fun _ hk => hk) trivial (Below.refl _ _) (Nat.le_refl _) (by simp) ?_;(case hd => rfl);(case hg => rfl);(case hr => first|(go_simp;done)|(go_simp;rfl));(case hp => exact (Reps.none _ _))
      intro v124 w17 ho18 hb hg_ hnew_
      clear hg_ hnew_
      (first | rw [← Ny123.out] at ho18 | (simp only [Int.reduceToNat] at ho18; rw [← Ny123.out] at ho18))
      have n0_ := Aside0.mk (Kd.R_below (by (with_reducible repeat (first|apply Kd.R_alloc|apply Kd.R_drewN|apply Kd.R_drew));exact HO122.out) hb)
      have n1_ := Aside0.mk (Kd.R_lower (Kd.R_newB ho18 (g := gb117) (o := .cells #[.int .i64 a2_0,.int .i64 a2_1,.int .i64 a2_2,.int .i64 a2_3,.slice a2_4.a a2_4.n a2_4.c] 27 (0,0)) (by (with_reducible repeat (first|refine blk_drewN ?_ _|refine blk_drew ?_|refine blk_alloc ?_ _));exact BK117.out)) (below_size (by repeat (first|(with_reducible first|exact HB.out|apply below_alloc|apply pw_below_drewN|apply below_drew1|refine below_set ?_ GE117.out)|exact HB.out))))
      have n2_ := Aside0.mk (blk_below (g := gb117) (o := .cells #[.int .i64 a2_0,.int .i64 a2_1,.int .i64 a2_2,.int .i64 a2_3,.slice a2_4.a a2_4.n a2_4.c] 27 (0,0)) (by (with_reducible repeat (first|refine blk_drewN ?_ _|refine blk_drew ?_|refine blk_alloc ?_ _));exact BK117.out) hb)
      have n3_ := Aside0.mk (below_step (by repeat (first|(with_reducible first|exact HB.out|apply below_alloc|apply pw_below_drewN|apply below_drew1|refine below_set ?_ GE117.out)|exact HB.out)) hb)
      clear HO122
      clear BK117
      clear HB
      have HO122 := n0_
      have HO125 := n1_
      have BK117 := n2_
      have HB := n3_
      clear n0_ n1_ n2_ n3_
      clear hb ho18
      refine hK.out _ _ ⟨(blk_cell BK117.out 0).trans rfl,(blk_cell BK117.out 1).trans rfl,(blk_cell BK117.out 2).trans rfl,(blk_cell BK117.out 3).trans rfl,(blk_cell BK117.out 4).trans rfl⟩ (fun hHeld => ?_)
      clear hK K
      refine norm_ (a' := ?_) ?_ ?_
      rotate_left
      ·show Act.put _ (some 25) _ = _
       simp only [Act.put, qa, qb, qc, i64_w, i32_w]
       rfl
      refine two_ (i := 2) (j := 4) (Ni := some 27) (Nj := some 29) #[true,true,true,true,false,false,false] #[true,true,false,true,true,false,false] rfl rfl rfl rfl (by kernel_rfl) (by decide) (by decide) (fun K hK => ?_) (fun K hK => ?_)
      ·skip
       refine Kd.R_append_rows_step k27 (w0 := w) w.heap.size (by rfl) (.tmp 25) (.tmp 26) 22 27 (.agg #[(.int .i64 0),(.int .i64 0),(.int .i64 0),(.int .i64 0),(.slice none 0 0)]) 56 rfl Try.underlying22 info27 rfl (by decide) (by omega) v124 y123 l0 _ _ _ (fun k_ => k_ ≠ gb117) (fun _ => False) rfl rfl ?aO ?aR (fun _ _ h => h) (fun _ h => h.elim) ?aF ?aB ?aS ?aL ?_
       (case aR => repeat (first|exact (Kd.C_below HR0.out HB.out)|(with_reducible refine Kd.C_alloc ?_ _)|(with_reducible refine Kd.C_drewN ?_ _)|(with_reducible refine Kd.C_drew ?_)))
       (case aB => exact (by repeat (first|(with_reducible first|exact HB.out|apply below_alloc|apply pw_below_drewN|apply below_drew1|refine below_set ?_ GE117.out)|exact HB.out)))
       (case aF => exact (fun k_ hk => Kd.freshB (g := gb117) (o := .cells #[.int .i64 a2_0,.int .i64 a2_1,.int .i64 a2_2,.int .i64 a2_3,.slice a2_4.a a2_4.n a2_4.c] 27 (0,0)) (by (with_reducible repeat (first|refine blk_drewN ?_ _|refine blk_drew ?_|refine blk_alloc ?_ _));exact BK117.out) k_ hk))
       (case aO => exact (by (with_reducible repeat (first|apply Kd.R_alloc|apply Kd.R_drewN|apply Kd.R_drew));exact Kd.R_mono HO125.out (fun _ hk => hk.2)))
       (case aS => exact (below_size (by repeat (first|(with_reducible first|exact HB.out|apply below_alloc|apply pw_below_drewN|apply below_drew1|refine below_set ?_ GE117.out)|exact HB.out))))
       (case aL => have := LMc9.out; omega)
       intro v127 w19 ho hb hg hat
       rw [← Ny126.out] at ho
       have n0_ := Aside0.mk (blk_grown (g := gb117) (o := .cells #[.int .i64 a2_0,.int .i64 a2_1,.int .i64 a2_2,.int .i64 a2_3,.slice a2_4.a a2_4.n a2_4.c] 27 (0,0)) (by (with_reducible repeat (first|refine blk_drewN ?_ _|refine blk_drew ?_|refine blk_alloc ?_ _));exact BK117.out) hg (Kd.R_away HO125.out (fun _ hk => hk.2)))
       have n1_ := Aside0.mk (Kd.R_over' (by (with_reducible repeat (first|apply Kd.R_alloc|apply Kd.R_drewN|apply Kd.R_drew));exact HO122.out) (Kd.R_typed (by (with_reducible repeat (first|apply Kd.R_alloc|apply Kd.R_drewN|apply Kd.R_drew));exact HO125.out)) (by decide) hg)
       have n2_ := Aside0.mk (hb)
       have n3_ := Aside0.mk (ho)
       clear BK117
       clear HO122
       clear HB
       clear HO125
       have BK117 := n0_
       have HO122 := n1_
       have HB := n2_
       have HO128 := n3_
       clear n0_ n1_ n2_ n3_
       clear ho hb hg hat
       refine hK.out _ _ ⟨(blk_cell BK117.out 0).trans rfl,(blk_cell BK117.out 1).trans rfl,(blk_cell BK117.out 2).trans rfl,(blk_cell BK117.out 3).trans rfl,(blk_cell BK117.out 4).trans rfl⟩ (fun hHeld => ?_)
       clear hK K
       refine norm_ (a' := ?_) ?_ ?_
       rotate_left
       ·show Act.put _ (some 27) _ = _
        simp only [Act.put, qa, qb, qc, i64_w, i32_w]
        rfl
       refine one_ (i := 4) (N := some 29) #[true,true,true,true,true,false,false] rfl rfl (by kernel_rfl) (by decide) (fun K hK => ?_)
       refine Kd.R_lit_step k27 _ 27 ?hg (N := 29) ?hd (xs := ([(⟨a2_0,(⟨a2_1,a2_2,a2_3⟩ : S24),a2_4⟩ : S27)] : List (S27))) (inner := [.int .i64 a2_0,.int .i64 a2_1,.int .i64 a2_2,.int .i64 a2_3,.slice a2_4.a a2_4.n a2_4.c]) (ok := fun _ => True) (okp := fun _ => True) ?hr ?hp (fun _ hk => hk) trivial (Below.refl _ _) (Nat.le_refl _) (by simp) ?_;(case hd => rfl);(case hg => rfl);(case hr => first|(go_simp;done)|(go_simp;rfl));(case hp => exact (Reps.c5 (show Kd.M k27 _ _ _ (⟨a2_0,(⟨a2_1,a2_2,a2_3⟩ : S24),a2_4⟩ : S27) [.int .i64 a2_0,.int .i64 a2_1,.int .i64 a2_2,.int .i64 a2_3,.slice a2_4.a a2_4.n a2_4.c] from (k27_mkM _ _ _ (⟨a2_0,(⟨a2_1,a2_2,a2_3⟩ : S24),a2_4⟩ : S27) )) (Reps.none _ _)))
       intro v130 w20 ho21 hb hg_ hnew_
       clear hg_ hnew_
       (first | rw [← Ny129.out] at ho21 | (simp only [Int.reduceToNat] at ho21; rw [← Ny129.out] at ho21))
       have n0_ := Aside0.mk (Kd.R_below (by (with_reducible repeat (first|apply Kd.R_alloc|apply Kd.R_drewN|apply Kd.R_drew));exact HO122.out) hb)
       have n1_ := Aside0.mk (Kd.R_elder' (by (with_reducible repeat (first|apply Kd.R_alloc|apply Kd.R_drewN|apply Kd.R_drew));exact HO128.out) (Kd.R_base ho21) hb)
       have n2_ := Aside0.mk (Kd.R_lower (Kd.R_newB (Kd.R_new' ho21 (Kd.R_lt (by (with_reducible repeat (first|apply Kd.R_alloc|apply Kd.R_drewN|apply Kd.R_drew));exact HO128.out))) (g := gb117) (o := .cells #[.int .i64 a2_0,.int .i64 a2_1,.int .i64 a2_2,.int .i64 a2_3,.slice a2_4.a a2_4.n a2_4.c] 27 (0,0)) (by (with_reducible repeat (first|refine blk_drewN ?_ _|refine blk_drew ?_|refine blk_alloc ?_ _));exact BK117.out)) (below_size (by repeat (first|(with_reducible first|exact HB.out|apply below_alloc|apply pw_below_drewN|apply below_drew1|refine below_set ?_ GE117.out)|exact HB.out))))
       have n3_ := Aside0.mk (blk_below (g := gb117) (o := .cells #[.int .i64 a2_0,.int .i64 a2_1,.int .i64 a2_2,.int .i64 a2_3,.slice a2_4.a a2_4.n a2_4.c] 27 (0,0)) (by (with_reducible repeat (first|refine blk_drewN ?_ _|refine blk_drew ?_|refine blk_alloc ?_ _));exact BK117.out) hb)
       have n4_ := Aside0.mk (below_step (by repeat (first|(with_reducible first|exact HB.out|apply below_alloc|apply pw_below_drewN|apply below_drew1|refine below_set ?_ GE117.out)|exact HB.out)) hb)
       clear HO122
       clear HO128
       clear BK117
       clear HB
       have HO122 := n0_
       have HO128 := n1_
       have HO131 := n2_
       have BK117 := n3_
       have HB := n4_
       clear n0_ n1_ n2_ n3_ n4_
       clear hb ho21
       refine hK.out _ _ ⟨(blk_cell BK117.out 0).trans rfl,(blk_cell BK117.out 1).trans rfl,(blk_cell BK117.out 2).trans rfl,(blk_cell BK117.out 3).trans rfl,(blk_cell BK117.out 4).trans rfl⟩ (fun hHeld => ?_)
       clear hK K
       refine norm_ (a' := ?_) ?_ ?_
       rotate_left
       ·show Act.put _ (some 29) _ = _
        simp only [Act.put, qa, qb, qc, i64_w, i32_w]
        rfl
       exact norm_ (by simp only [putAll,Act.put,qa,qb,qc]) (hCont (v124,v127,v130) _ ⟨hHeld,(by (with_reducible repeat (first|apply Kd.R_alloc|apply Kd.R_drewN|apply Kd.R_drew));exact HO122.out),(by (with_reducible repeat (first|apply Kd.R_alloc|apply Kd.R_drewN|apply Kd.R_drew));exact Kd.R_mono HO128.out (fun _ hk => ⟨hk.2,hk.1⟩)),(by (with_reducible repeat (first|apply Kd.R_alloc|apply Kd.R_drewN|apply Kd.R_drew));exact Kd.R_mono HO131.out (fun _ hk => ⟨hk.1.2,hk.2⟩)),(by (with_reducible repeat (first|refine blk_drewN ?_ _|refine blk_drew ?_|refine blk_alloc ?_ _));exact BK117.out),(by repeat (first|(with_reducible first|exact HB.out|apply below_alloc|apply pw_below_drewN|apply below_drew1|refine below_set ?_ GE117.out)|exact HB.out))⟩)
      ·skip
       refine Kd.R_lit_step k27 _ 27 ?hg (N := 29) ?hd (xs := ([(⟨a2_0,(⟨a2_1,a2_2,a2_3⟩ : S24),a2_4⟩ : S27)] : List (S27))) (inner := [.int .i64 a2_0,.int .i64 a2_1,.int .i64 a2_2,.int .i64 a2_3,.slice a2_4.a a2_4.n a2_4.c]) (ok := fun _ => True) (okp := fun _ => True) ?hr ?hp (fun _ hk => hk) trivial (Below.refl _ _) (Nat.le_refl _) (by simp) ?_;(case hd => rfl);(case hg => rfl);(case hr => first|(go_simp;done)|(go_simp;rfl));(case hp => exact (Reps.c5 (show Kd.M k27 _ _ _ (⟨a2_0,(⟨a2_1,a2_2,a2_3⟩ : S24),a2_4⟩ : S27) [.int .i64 a2_0,.int .i64 a2_1,.int .i64 a2_2,.int .i64 a2_3,.slice a2_4.a a2_4.n a2_4.c] from (k27_mkM _ _ _ (⟨a2_0,(⟨a2_1,a2_2,a2_3⟩ : S24),a2_4⟩ : S27) )) (Reps.none _ _)))
       intro v130 w19 ho20 hb hg_ hnew_
       clear hg_ hnew_
       (first | rw [← Ny129.out] at ho20 | (simp only [Int.reduceToNat] at ho20; rw [← Ny129.out] at ho20))
       have n0_ := Aside0.mk (Kd.R_below (by (with_reducible repeat (first|apply Kd.R_alloc|apply Kd.R_drewN|apply Kd.R_drew));exact HO122.out) hb)
       have n1_ := Aside0.mk (Kd.R_elder' (by (with_reducible repeat (first|apply Kd.R_alloc|apply Kd.R_drewN|apply Kd.R_drew));exact HO125.out) (Kd.R_base ho20) hb)
       have n2_ := Aside0.mk (Kd.R_lower (Kd.R_newB (Kd.R_new' ho20 (Kd.R_lt (by (with_reducible repeat (first|apply Kd.R_alloc|apply Kd.R_drewN|apply Kd.R_drew));exact HO125.out))) (g := gb117) (o := .cells #[.int .i64 a2_0,.int .i64 a2_1,.int .i64 a2_2,.int .i64 a2_3,.slice a2_4.a a2_4.n a2_4.c] 27 (0,0)) (by (with_reducible repeat (first|refine blk_drewN ?_ _|refine blk_drew ?_|refine blk_alloc ?_ _));exact BK117.out)) (below_size (by repeat (first|(with_reducible first|exact HB.out|apply below_alloc|apply pw_below_drewN|apply below_drew1|refine below_set ?_ GE117.out)|exact HB.out))))
       have n3_ := Aside0.mk (blk_below (g := gb117) (o := .cells #[.int .i64 a2_0,.int .i64 a2_1,.int .i64 a2_2,.int .i64 a2_3,.slice a2_4.a a2_4.n a2_4.c] 27 (0,0)) (by (with_reducible repeat (first|refine blk_drewN ?_ _|refine blk_drew ?_|refine blk_alloc ?_ _));exact BK117.out) hb)
       have n4_ := Aside0.mk (below_step (by repeat (first|(with_reducible first|exact HB.out|apply below_alloc|apply pw_below_drewN|apply below_drew1|refine below_set ?_ GE117.out)|exact HB.out)) hb)
       clear HO122
       clear HO125
       clear BK117
       clear HB
       have HO122 := n0_
       have HO125 := n1_
       have HO131 := n2_
       have BK117 := n3_
       have HB := n4_
       clear n0_ n1_ n2_ n3_ n4_
       clear hb ho20
       refine hK.out _ _ ⟨(blk_cell BK117.out 0).trans rfl,(blk_cell BK117.out 1).trans rfl,(blk_cell BK117.out 2).trans rfl,(blk_cell BK117.out 3).trans rfl,(blk_cell BK117.out 4).trans rfl⟩ (fun hHeld => ?_)
       clear hK K
       refine norm_ (a' := ?_) ?_ ?_
       rotate_left
       ·show Act.put _ (some 29) _ = _
        simp only [Act.put, qa, qb, qc, i64_w, i32_w]
        rfl
       refine one_ (i := 2) (N := some 27) #[true,true,true,true,true,false,false] rfl rfl (by kernel_rfl) (by decide) (fun K hK => ?_)
       refine Kd.R_append_rows_step k27 (w0 := w) w.heap.size (by rfl) (.tmp 25) (.tmp 26) 22 27 (.agg #[(.int .i64 0),(.int .i64 0),(.int .i64 0),(.int .i64 0),(.slice none 0 0)]) 56 rfl Try.underlying22 info27 rfl (by decide) (by omega) v124 y123 l0 _ _ _ (fun k_ => some k_ ≠ (v130 : Value).ownBlock ∧ k_ ≠ gb117) (fun _ => False) rfl rfl ?aO ?aR (fun _ _ h => h) (fun _ h => h.elim) ?aF ?aB ?aS ?aL ?_
       (case aR => repeat (first|exact (Kd.C_below HR0.out HB.out)|(with_reducible refine Kd.C_alloc ?_ _)|(with_reducible refine Kd.C_drewN ?_ _)|(with_reducible refine Kd.C_drew ?_)))
       (case aB => exact (by repeat (first|(with_reducible first|exact HB.out|apply below_alloc|apply pw_below_drewN|apply below_drew1|refine below_set ?_ GE117.out)|exact HB.out)))
       (case aF => exact (fun k_ hk => ⟨Kd.fresh' (Kd.R_lt (by (with_reducible repeat (first|apply Kd.R_alloc|apply Kd.R_drewN|apply Kd.R_drew));exact HO131.out)) k_ hk,Kd.freshB (g := gb117) (o := .cells #[.int .i64 a2_0,.int .i64 a2_1,.int .i64 a2_2,.int .i64 a2_3,.slice a2_4.a a2_4.n a2_4.c] 27 (0,0)) (by (with_reducible repeat (first|refine blk_drewN ?_ _|refine blk_drew ?_|refine blk_alloc ?_ _));exact BK117.out) k_ hk⟩))
       (case aO => exact (by (with_reducible repeat (first|apply Kd.R_alloc|apply Kd.R_drewN|apply Kd.R_drew));exact Kd.R_mono HO125.out (fun _ hk => ⟨hk.2,hk.1.2⟩)))
       (case aS => exact (below_size (by repeat (first|(with_reducible first|exact HB.out|apply below_alloc|apply pw_below_drewN|apply below_drew1|refine below_set ?_ GE117.out)|exact HB.out))))
       (case aL => have := LMc9.out; omega)
       intro v127 w21 ho hb hg hat
       rw [← Ny126.out] at ho
       have n0_ := Aside0.mk (blk_grown (g := gb117) (o := .cells #[.int .i64 a2_0,.int .i64 a2_1,.int .i64 a2_2,.int .i64 a2_3,.slice a2_4.a a2_4.n a2_4.c] 27 (0,0)) (by (with_reducible repeat (first|refine blk_drewN ?_ _|refine blk_drew ?_|refine blk_alloc ?_ _));exact BK117.out) hg (Kd.R_away HO125.out (fun _ hk => hk.1.2)))
       have n1_ := Aside0.mk (Kd.R_over' (by (with_reducible repeat (first|apply Kd.R_alloc|apply Kd.R_drewN|apply Kd.R_drew));exact HO122.out) (Kd.R_typed (by (with_reducible repeat (first|apply Kd.R_alloc|apply Kd.R_drewN|apply Kd.R_drew));exact HO125.out)) (by decide) hg)
       have n2_ := Aside0.mk (Kd.R_after (ok := (fun k_ => k_ ≠ gb117)) (by (with_reducible repeat (first|apply Kd.R_alloc|apply Kd.R_drewN|apply Kd.R_drew));exact Kd.R_mono HO131.out (fun _ hk => ⟨hk.2,hk.1.2⟩)) hg hat)
       have n3_ := Aside0.mk (hb)
       have n4_ := Aside0.mk (ho)
       clear BK117
       clear HO122
       clear HO131
       clear HB
       clear HO125
       have BK117 := n0_
       have HO122 := n1_
       have HO131 := n2_
       have HB := n3_
       have HO128 := n4_
       clear n0_ n1_ n2_ n3_ n4_
       clear ho hb hg hat
       refine hK.out _ _ ⟨(blk_cell BK117.out 0).trans rfl,(blk_cell BK117.out 1).trans rfl,(blk_cell BK117.out 2).trans rfl,(blk_cell BK117.out 3).trans rfl,(blk_cell BK117.out 4).trans rfl⟩ (fun hHeld => ?_)
       clear hK K
       refine norm_ (a' := ?_) ?_ ?_
       rotate_left
       ·show Act.put _ (some 27) _ = _
        simp only [Act.put, qa, qb, qc, i64_w, i32_w]
        rfl
       exact norm_ (by simp only [putAll,Act.put,qa,qb,qc]) (hCont (v124,v127,v130) _ ⟨hHeld,(by (with_reducible repeat (first|apply Kd.R_alloc|apply Kd.R_drewN|apply Kd.R_drew));exact HO122.out),(by (with_reducible repeat (first|apply Kd.R_alloc|apply Kd.R_drewN|apply Kd.R_drew));exact HO128.out),(by (with_reducible repeat (first|apply Kd.R_alloc|apply Kd.R_drewN|apply Kd.R_drew));exact Kd.R_mono HO131.out (fun _ hk => ⟨hk.2,hk.1⟩)),(by (with_reducible repeat (first|refine blk_drewN ?_ _|refine blk_drew ?_|refine blk_alloc ?_ _));exact BK117.out),(by repeat (first|(with_reducible first|exact HB.out|apply below_alloc|apply pw_below_drewN|apply below_drew1|refine below_set ?_ GE117.out)|exact HB.out))⟩)
     ·skip
      refine Kd.R_lit_step k27 _ 27 ?hg (N := 29) ?hd (xs := ([(⟨a2_0,(⟨a2_1,a2_2,a2_3⟩ : S24),a2_4⟩ : S27)] : List (S27))) (inner := [.int .i64 a2_0,.int .i64 a2_1,.int .i64 a2_2,.int .i64 a2_3,.slice a2_4.a a2_4.n a2_4.c]) (ok := fun _ => True) (okp := fun _ => True) ?hr ?hp (fun _ hk => hk) trivial (Below.refl _ _) (Nat.le_refl _) (by simp) ?_;(case hd => rfl);(case hg => rfl);(case hr => first|(go_simp;done)|(go_simp;rfl));(case hp => exact (Reps.c5 (show Kd.M k27 _ _ _ (⟨a2_0,(⟨a2_1,a2_2,a2_3⟩ : S24),a2_4⟩ : S27) [.int .i64 a2_0,.int .i64 a2_1,.int .i64 a2_2,.int .i64 a2_3,.slice a2_4.a a2_4.n a2_4.c] from (k27_mkM _ _ _ (⟨a2_0,(⟨a2_1,a2_2,a2_3⟩ : S24),a2_4⟩ : S27) )) (Reps.none _ _)))
      intro v130 w17 ho18 hb hg_ hnew_
      clear hg_ hnew_
      (first | rw [← Ny129.out] at ho18 | (simp only [Int.reduceToNat] at ho18; rw [← Ny129.out] at ho18))
      have n0_ := Aside0.mk (Kd.R_below (by (with_reducible repeat (first|apply Kd.R_alloc|apply Kd.R_drewN|apply Kd.R_drew));exact HO122.out) hb)
      have n1_ := Aside0.mk (Kd.R_lower (Kd.R_newB ho18 (g := gb117) (o := .cells #[.int .i64 a2_0,.int .i64 a2_1,.int .i64 a2_2,.int .i64 a2_3,.slice a2_4.a a2_4.n a2_4.c] 27 (0,0)) (by (with_reducible repeat (first|refine blk_drewN ?_ _|refine blk_drew ?_|refine blk_alloc ?_ _));exact BK117.out)) (below_size (by repeat (first|(with_reducible first|exact HB.out|apply below_alloc|apply pw_below_drewN|apply below_drew1|refine below_set ?_ GE117.out)|exact HB.out))))
      have n2_ := Aside0.mk (blk_below (g := gb117) (o := .cells #[.int .i64 a2_0,.int .i64 a2_1,.int .i64 a2_2,.int .i64 a2_3,.slice a2_4.a a2_4.n a2_4.c] 27 (0,0)) (by (with_reducible repeat (first|refine blk_drewN ?_ _|refine blk_drew ?_|refine blk_alloc ?_ _));exact BK117.out) hb)
      have n3_ := Aside0.mk (below_step (by repeat (first|(with_reducible first|exact HB.out|apply below_alloc|apply pw_below_drewN|apply below_drew1|refine below_set ?_ GE117.out)|exact HB.out)) hb)
      clear HO122
      clear BK117
      clear HB
      have HO122 := n0_
      have HO131 := n1_
      have BK117 := n2_
      have HB := n3_
      clear n0_ n1_ n2_ n3_
      clear hb ho18
      refine hK.out _ _ ⟨(blk_cell BK117.out 0).trans rfl,(blk_cell BK117.out 1).trans rfl,(blk_cell BK117.out 2).trans rfl,(blk_cell BK117.out 3).trans rfl,(blk_cell BK117.out 4).trans rfl⟩ (fun hHeld => ?_)
      clear hK K
      refine norm_ (a' := ?_) ?_ ?_
      rotate_left
      ·show Act.put _ (some 29) _ = _
       simp only [Act.put, qa, qb, qc, i64_w, i32_w]
       rfl
      refine one_ (i := 0) (N := some 25) #[true,true,false,true,true,false,false] rfl rfl (by kernel_rfl) (by decide) (fun K hK => ?_)
      refine Kd.R_lit_step k27 _ 27 ?hg (N := 25) ?hd (xs := ([] : List (S27))) (inner := []) (ok := fun _ => True) (okp := fun _ => True) ?hr ?hp (fun _ hk => hk) trivial (Below.refl _ _) (Nat.le_refl _) (by simp) ?_;(case hd => rfl);(case hg => rfl);(case hr => first|(go_simp;done)|(go_simp;rfl));(case hp => exact (Reps.none _ _))
      intro v124 w19 ho20 hb hg_ hnew_
      clear hg_ hnew_
      (first | rw [← Ny123.out] at ho20 | (simp only [Int.reduceToNat] at ho20; rw [← Ny123.out] at ho20))
      have n0_ := Aside0.mk (Kd.R_below (by (with_reducible repeat (first|apply Kd.R_alloc|apply Kd.R_drewN|apply Kd.R_drew));exact HO122.out) hb)
      have n1_ := Aside0.mk (Kd.R_elder' (by (with_reducible repeat (first|apply Kd.R_alloc|apply Kd.R_drewN|apply Kd.R_drew));exact HO131.out) (Kd.R_base ho20) hb)
      have n2_ := Aside0.mk (Kd.R_lower (Kd.R_newB (Kd.R_new' ho20 (Kd.R_lt (by (with_reducible repeat (first|apply Kd.R_alloc|apply Kd.R_drewN|apply Kd.R_drew));exact HO131.out))) (g := gb117) (o := .cells #[.int .i64 a2_0,.int .i64 a2_1,.int .i64 a2_2,.int .i64 a2_3,.slice a2_4.a a2_4.n a2_4.c] 27 (0,0)) (by (with_reducible repeat (first|refine blk_drewN ?_ _|refine blk_drew ?_|refine blk_alloc ?_ _));exact BK117.out)) (below_size (by repeat (first|(with_reducible first|exact HB.out|apply below_alloc|apply pw_below_drewN|apply below_drew1|refine below_set ?_ GE117.out)|exact HB.out))))
      have n3_ := Aside0.mk (blk_below (g := gb117) (o := .cells #[.int .i64 a2_0,.int .i64 a2_1,.int .i64 a2_2,.int .i64 a2_3,.slice a2_4.a a2_4.n a2_4.c] 27 (0,0)) (by (with_reducible repeat (first|refine blk_drewN ?_ _|refine blk_drew ?_|refine blk_alloc ?_ _));exact BK117.out) hb)
      have n4_ := Aside0.mk (below_step (by repeat (first|(with_reducible first|exact HB.out|apply below_alloc|apply pw_below_drewN|apply below_drew1|refine below_set ?_ GE117.out)|exact HB.out)) hb)
      clear HO122
      clear HO131
      clear BK117
      clear HB
      have HO122 := n0_
      have HO131 := n1_
      have HO125 := n2_
      have BK117 := n3_
      have HB := n4_
      clear n0_ n1_ n2_ n3_ n4_
      clear hb ho20
      refine hK.out _ _ ⟨(blk_cell BK117.out 0).trans rfl,(blk_cell BK117.out 1).trans rfl,(blk_cell BK117.out 2).trans rfl,(blk_cell BK117.out 3).trans rfl,(blk_cell BK117.out 4).trans rfl⟩ (fun hHeld => ?_)
      clear hK K
      refine norm_ (a' := ?_) ?_ ?_
      rotate_left
      ·show Act.put _ (some 25) _ = _
       simp only [Act.put, qa, qb, qc, i64_w, i32_w]
       rfl
      refine one_ (i := 2) (N := some 27) #[true,true,true,true,true,false,false] rfl rfl (by kernel_rfl) (by decide) (fun K hK => ?_)
      refine Kd.R_append_rows_step k27 (w0 := w) w.heap.size (by rfl) (.tmp 25) (.tmp 26) 22 27 (.agg #[(.int .i64 0),(.int .i64 0),(.int .i64 0),(.int .i64 0),(.slice none 0 0)]) 56 rfl Try.underlying22 info27 rfl (by decide) (by omega) v124 y123 l0 _ _ _ (fun k_ => some k_ ≠ (v130 : Value).ownBlock ∧ k_ ≠ gb117) (fun _ => False) rfl rfl ?aO ?aR (fun _ _ h => h) (fun _ h => h.elim) ?aF ?aB ?aS ?aL ?_
      (case aR => repeat (first|exact (Kd.C_below HR0.out HB.out)|(with_reducible refine Kd.C_alloc ?_ _)|(with_reducible refine Kd.C_drewN ?_ _)|(with_reducible refine Kd.C_drew ?_)))
      (case aB => exact (by repeat (first|(with_reducible first|exact HB.out|apply below_alloc|apply pw_below_drewN|apply below_drew1|refine below_set ?_ GE117.out)|exact HB.out)))
      (case aF => exact (fun k_ hk => ⟨Kd.fresh' (Kd.R_lt (by (with_reducible repeat (first|apply Kd.R_alloc|apply Kd.R_drewN|apply Kd.R_drew));exact HO131.out)) k_ hk,Kd.freshB (g := gb117) (o := .cells #[.int .i64 a2_0,.int .i64 a2_1,.int .i64 a2_2,.int .i64 a2_3,.slice a2_4.a a2_4.n a2_4.c] 27 (0,0)) (by (with_reducible repeat (first|refine blk_drewN ?_ _|refine blk_drew ?_|refine blk_alloc ?_ _));exact BK117.out) k_ hk⟩))
      (case aO => exact (by (with_reducible repeat (first|apply Kd.R_alloc|apply Kd.R_drewN|apply Kd.R_drew));exact Kd.R_mono HO125.out (fun _ hk => ⟨hk.1.2,hk.2⟩)))
      (case aS => exact (below_size (by repeat (first|(with_reducible first|exact HB.out|apply below_alloc|apply pw_below_drewN|apply below_drew1|refine below_set ?_ GE117.out)|exact HB.out))))
      (case aL => have := LMc9.out; omega)
      intro v127 w21 ho hb hg hat
      rw [← Ny126.out] at ho
      have n0_ := Aside0.mk (blk_grown (g := gb117) (o := .cells #[.int .i64 a2_0,.int .i64 a2_1,.int .i64 a2_2,.int .i64 a2_3,.slice a2_4.a a2_4.n a2_4.c] 27 (0,0)) (by (with_reducible repeat (first|refine blk_drewN ?_ _|refine blk_drew ?_|refine blk_alloc ?_ _));exact BK117.out) hg (Kd.R_away HO125.out (fun _ hk => hk.2)))
      have n1_ := Aside0.mk (Kd.R_over' (by (with_reducible repeat (first|apply Kd.R_alloc|apply Kd.R_drewN|apply Kd.R_drew));exact HO122.out) (Kd.R_typed (by (with_reducible repeat (first|apply Kd.R_alloc|apply Kd.R_drewN|apply Kd.R_drew));exact HO125.out)) (by decide) hg)
      have n2_ := Aside0.mk (Kd.R_after (ok := (fun k_ => k_ ≠ gb117)) (by (with_reducible repeat (first|apply Kd.R_alloc|apply Kd.R_drewN|apply Kd.R_drew));exact Kd.R_mono HO131.out (fun _ hk => ⟨hk.1.2,hk.2⟩)) hg hat)
      have n3_ := Aside0.mk (hb)
      have n4_ := Aside0.mk (ho)
      clear BK117
      clear HO122
      clear HO131
      clear HB
      clear HO125
      have BK117 := n0_
      have HO122 := n1_
      have HO131 := n2_
      have HB := n3_
      have HO128 := n4_
      clear n0_ n1_ n2_ n3_ n4_
      clear ho hb hg hat
      refine hK.out _ _ ⟨(blk_cell BK117.out 0).trans rfl,(blk_cell BK117.out 1).trans rfl,(blk_cell BK117.out 2).trans rfl,(blk_cell BK117.out 3).trans rfl,(blk_cell BK117.out 4).trans rfl⟩ (fun hHeld => ?_)
      clear hK K
      refine norm_ (a' := ?_) ?_ ?_
      rotate_left
      ·show Act.put _ (some 27) _ = _
       simp only [Act.put, qa, qb, qc, i64_w, i32_w]
       rfl
      exact norm_ (by simp only [putAll,Act.put,qa,qb,qc]) (hCont (v124,v127,v130) _ ⟨hHeld,(by (with_reducible repeat (first|apply Kd.R_alloc|apply Kd.R_drewN|apply Kd.R_drew));exact HO122.out),(by (with_reducible repeat (first|apply Kd.R_alloc|apply Kd.R_drewN|apply Kd.R_drew));exact HO128.out),(by (with_reducible repeat (first|apply Kd.R_alloc|apply Kd.R_drewN|apply Kd.R_drew));exact Kd.R_mono HO131.out (fun _ hk => ⟨hk.2,hk.1⟩)),(by (with_reducible repeat (first|refine blk_drewN ?_ _|refine blk_drew ?_|refine blk_alloc ?_ _));exact BK117.out),(by repeat (first|(with_reducible first|exact HB.out|apply below_alloc|apply pw_below_drewN|apply below_drew1|refine below_set ?_ GE117.out)|exact HB.out))⟩)
    rintro ⟨v124, v127, v130⟩ w22 ⟨hS_, h0_, h1_, h2_, h3_, h4_⟩
    have n0_ : Aside0 (Kd.R k33 33 w22 w.heap.size (fun _ => True) v121 t119) := ⟨h0_⟩
    have n1_ : Aside0 (Kd.R k27 27 w22 w.heap.size (fun k_ => some k_ ≠ (v130 : Value).ownBlock ∧ k_ ≠ gb117) v127 y126) := ⟨h1_⟩
    have n2_ : Aside0 (Kd.R k27 27 w22 w.heap.size (fun k_ => some k_ ≠ (v127 : Value).ownBlock ∧ k_ ≠ gb117) v130 y129) := ⟨h2_⟩
    have n3_ : Aside0 (w22.heap[gb117]? = some (.cells #[.int .i64 a2_0,.int .i64 a2_1,.int .i64 a2_2,.int .i64 a2_3,.slice a2_4.a a2_4.n a2_4.c] 27 (0,0))) := ⟨h3_⟩
    have n4_ : Aside0 (Below w.heap.size w w22) := ⟨h4_⟩
    clear HO122
    clear BK117
    clear HB
    clear h0_ h1_ h2_ h3_ h4_
    have HO122 := n0_
    have HO128 := n1_
    have HO131 := n2_
    have BK117 := n3_
    have HB := n4_
    clear n0_ n1_ n2_ n3_ n4_
    have hHeld : w22.cell? ⟨gb117,0,none⟩ = some (.int .i64 a2_0) ∧ w22.cell? ⟨gb117,1,none⟩ = some (.int .i64 a2_1) ∧ w22.cell? ⟨gb117,2,none⟩ = some (.int .i64 a2_2) ∧ w22.cell? ⟨gb117,3,none⟩ = some (.int .i64 a2_3) ∧ w22.cell? ⟨gb117,4,none⟩ = some (.slice a2_4.a a2_4.n a2_4.c) := hS_
    obtain ⟨Ao24, co24, eo24⟩ := Kd.R_slice HO131.out
    (first|subst eo24|(injection eo24 with f1_ f2_ f3_;have f4_ := f1_.symm;have f5_ := f3_.symm;clear f1_ f2_ f3_;subst f4_;subst f5_))
    refine norm_ (a' := ?_) ?_ ?_
    rotate_left
    ·simp only [putAll, Act.put, qa, qb, qc]
     rfl
    refine one_ (i := 5) (N := some 30) #[true,true,true,true,true,true,false] rfl rfl (by kernel_rfl) (by decide) (fun K hK => ?_)
    refine Kd.R_append_rows_step k27 (w0 := w) w.heap.size (by rfl) (.tmp 27) (.tmp 29) 22 27 (.agg #[(.int .i64 0),(.int .i64 0),(.int .i64 0),(.int .i64 0),(.slice none 0 0)]) 56 rfl Try.underlying22 info27 rfl (by decide) (by omega) v127 y126 y129 _ _ _ (fun k_ => some k_ ≠ (.slice Ao24 y129.length co24 : Value).ownBlock ∧ k_ ≠ gb117) (fun _ => False) rfl rfl ?aO ?aR (fun _ _ h => h) (fun _ h => h.elim) ?aF ?aB ?aS ?aL ?_
    (case aR => repeat (first|exact (Kd.R_reads' HO131.out).2.2|(with_reducible refine Kd.C_alloc ?_ _)|(with_reducible refine Kd.C_drewN ?_ _)|(with_reducible refine Kd.C_drew ?_)))
    (case aB => exact (by repeat (first|(with_reducible first|exact HB.out|apply below_alloc|apply pw_below_drewN|apply below_drew1|refine below_set ?_ GE117.out)|exact HB.out)))
    (case aF => exact (fun k_ hk => ⟨Kd.fresh' (Kd.R_lt (by (with_reducible repeat (first|apply Kd.R_alloc|apply Kd.R_drewN|apply Kd.R_drew));exact HO131.out)) k_ hk,Kd.freshB (g := gb117) (o := .cells #[.int .i64 a2_0,.int .i64 a2_1,.int .i64 a2_2,.int .i64 a2_3,.slice a2_4.a a2_4.n a2_4.c] 27 (0,0)) (by (with_reducible repeat (first|refine blk_drewN ?_ _|refine blk_drew ?_|refine blk_alloc ?_ _));exact BK117.out) k_ hk⟩))
    (case aO => exact (by (with_reducible repeat (first|apply Kd.R_alloc|apply Kd.R_drewN|apply Kd.R_drew));exact HO128.out))
    (case aS => exact (below_size (by repeat (first|(with_reducible first|exact HB.out|apply below_alloc|apply pw_below_drewN|apply below_drew1|refine below_set ?_ GE117.out)|exact HB.out))))
    (case aL => have := LMc10.out; omega)
    intro v133 w23 ho hb hg hat
    rw [← Ny132.out] at ho
    have n0_ := Aside0.mk (blk_grown (g := gb117) (o := .cells #[.int .i64 a2_0,.int .i64 a2_1,.int .i64 a2_2,.int .i64 a2_3,.slice a2_4.a a2_4.n a2_4.c] 27 (0,0)) (by (with_reducible repeat (first|refine blk_drewN ?_ _|refine blk_drew ?_|refine blk_alloc ?_ _));exact BK117.out) hg (Kd.R_away HO128.out (fun _ hk => hk.2)))
    have n1_ := Aside0.mk (Kd.R_over' (by (with_reducible repeat (first|apply Kd.R_alloc|apply Kd.R_drewN|apply Kd.R_drew));exact HO122.out) (Kd.R_typed (by (with_reducible repeat (first|apply Kd.R_alloc|apply Kd.R_drewN|apply Kd.R_drew));exact HO128.out)) (by decide) hg)
    have n2_ := Aside0.mk (Kd.R_after (ok := (fun k_ => k_ ≠ gb117)) (by (with_reducible repeat (first|apply Kd.R_alloc|apply Kd.R_drewN|apply Kd.R_drew));exact Kd.R_mono HO131.out (fun _ hk => ⟨hk.2,hk.1⟩)) hg hat)
    have n3_ := Aside0.mk (hb)
    have n4_ := Aside0.mk (ho)
    clear BK117
    clear HO122
    clear HO131
    clear HB
    clear HO128
    have BK117 := n0_
    have HO122 := n1_
    have HO131 := n2_
    have HB := n3_
    have HO134 := n4_
    clear n0_ n1_ n2_ n3_ n4_
    clear ho hb hg hat
    refine hK.out _ _ ⟨(blk_cell BK117.out 0).trans rfl,(blk_cell BK117.out 1).trans rfl,(blk_cell BK117.out 2).trans rfl,(blk_cell BK117.out 3).trans rfl,(blk_cell BK117.out 4).trans rfl⟩ (fun hHeld => ?_)
    clear hK K
    refine norm_ (a' := ?_) ?_ ?_
    rotate_left
    ·show Act.put _ (some 30) _ = _
     simp only [Act.put, qa, qb, qc, i64_w, i32_w]
     rfl
    refine pure_ (i := 6) (N := some 10) (v := ?_) (a' := ?_) #[true,true,true,true,true,true,true] rfl rfl (by kernel_rfl) (fun _ _ _ h => h) (Or.inl ⟨by rfl,?_⟩) ?_ ?_
    rotate_left
    ·intro w'
     go_simp
     with_reducible rfl
    rotate_left
    ·simp only [Act.put, qa, qb, qc, i64_w, i32_w]
     rfl
    refine done_ (by kernel_rfl) ?_
    obtain ⟨Ao25, co25, eo25⟩ := Kd.R_slice HO134.out
    subst eo25
    go_upto_region 7 with (first|((with_reducible refine gate_callee (f := 9) rfl ?_);refine goesL_ (some 34) rfl rfl Try.func9 (by kernel_rfl) rfl #[.slice Ao25 y132.length co25,.int .i64 a1] rfl (by (try simp only [List.map_toArray,List.map_cons,List.map_nil]);first|done|rfl|(simp only [List.length_drop,List.length_take];rfl)) ?_;(with_reducible refine (replay_Newest.calls _ _ y132 a1 t135 t136 _ ?side1 ?side2 A11.out).mono ?_);(case side1 => repeat (first|exact (Kd.R_reads' HO134.out).2.2|(with_reducible refine Kd.C_alloc ?_ _)|(with_reducible refine Kd.C_drewN ?_ _)|(with_reducible refine Kd.C_drew ?_)));(case side2 => exact (Kd.R_reads' HO134.out).2.1);rintro e w26 ⟨v137,rfl,ho0,hb⟩;refine ⟨_,rfl,?_⟩;have n0_ := Aside0.mk (Kd.R_elder' (by (with_reducible repeat (first|apply Kd.R_alloc|apply Kd.R_drewN|apply Kd.R_drew));exact HO122.out) (Kd.R_base ho0) hb);have n1_ := Aside0.mk (Kd.R_below (by (with_reducible repeat (first|apply Kd.R_alloc|apply Kd.R_drewN|apply Kd.R_drew));exact HO131.out) hb);have n2_ := Aside0.mk (Kd.R_below (by (with_reducible repeat (first|apply Kd.R_alloc|apply Kd.R_drewN|apply Kd.R_drew));exact HO134.out) hb);have n3_ := Aside0.mk (Kd.R_lower (Kd.R_new' ho0 (Kd.R_lt (by (with_reducible repeat (first|apply Kd.R_alloc|apply Kd.R_drewN|apply Kd.R_drew));exact HO122.out))) (below_size (by repeat (first|(with_reducible first|exact HB.out|apply below_alloc|apply pw_below_drewN|apply below_drew1|refine below_set ?_ GE117.out)|exact HB.out))));have n4_ := Aside0.mk (blk_below (g := gb117) (o := .cells #[.int .i64 a2_0,.int .i64 a2_1,.int .i64 a2_2,.int .i64 a2_3,.slice a2_4.a a2_4.n a2_4.c] 27 (0,0)) (by (with_reducible repeat (first|refine blk_drewN ?_ _|refine blk_drew ?_|refine blk_alloc ?_ _));exact BK117.out) hb);have n5_ := Aside0.mk (below_step (by repeat (first|(with_reducible first|exact HB.out|apply below_alloc|apply pw_below_drewN|apply below_drew1|refine below_set ?_ GE117.out)|exact HB.out)) hb);clear HO122;clear HO131;clear HO134;clear BK117;clear HB;have HO122 := n0_;have HO131 := n1_;have HO134 := n2_;have HO138 := n3_;have BK117 := n4_;have HB := n5_;clear n0_ n1_ n2_ n3_ n4_ n5_;(try clear hb);(try clear hb2);(try clear hk);(try clear hi);(try clear ho0)))
    (try simp only [Act.put, qa, qb, qc])
    go_cut [46] (fun v46 wc => ∃ (kq : Nat) (x46_11 : Bool),v46 = .bool x46_11 ∧ Aside0 (strakelaw18_ReplayMore.j0 kq t118 t119 t135 x46_11 a2_0 a2_1 a2_2 a2_3 a2_4 = some r) ∧ Aside0 (kq ≤ k) ∧ Aside0 (Kd.R k33 33 wc w.heap.size (fun k_ => some k_ ≠ (v137 : Value).ownBlock) v121 t119) ∧ Aside0 (Kd.R k33 33 wc w.heap.size (fun k_ => some k_ ≠ (v121 : Value).ownBlock) v137 t135) ∧ Aside0 (wc.heap[gb117]? = some (.cells #[.int .i64 a2_0,.int .i64 a2_1,.int .i64 a2_2,.int .i64 a2_3,.slice a2_4.a a2_4.n a2_4.c] 27 (0,0))) ∧ Aside0 (Below w.heap.size w wc))
    case first =>
     have H := HC12.out
     clear HC12
     by_cases c27 : (t119.length : Int) = (t135.length : Int)
     ·rw [if_pos c27] at H
      have c27b0 : ((t119.length : Int) == (t135.length : Int)) = true := beq_iff_eq.mpr c27
      have c27b1 : ((t119.length : Int) != (t135.length : Int)) = false := bne_eq_false_iff_eq.mpr c27
      have c27b2 : (t119.length == t135.length) = true := by first | simpa using c27 | (simp at c27 ⊢; omega)
      clear c27
      (first | rw [c27b0] | (simp only [i64_w, i32_w]; rw [c27b0]) | skip)
      have H' := Aside0.mk H
      clear H
      obtain ⟨Ao28, co28, eo28⟩ := Kd.R_slice HO122.out
      subst eo28
      obtain ⟨Ao29, co29, eo29⟩ := Kd.R_slice HO138.out
      subst eo29
      go_wp2
      go_meet
      case rel => exact ⟨_,(decide (t136 < t120)),(by first|rfl|(simp;done)|(simp [*];done)),H',⟨by first|omega|exact Nat.le_refl _⟩,⟨by (with_reducible repeat (first|apply Kd.R_alloc|apply Kd.R_drewN|apply Kd.R_drew));exact Kd.R_mono HO122.out (fun _ hk => hk.2)⟩,⟨by (with_reducible repeat (first|apply Kd.R_alloc|apply Kd.R_drewN|apply Kd.R_drew));exact Kd.R_mono HO138.out (fun _ hk => hk.2)⟩,⟨by (with_reducible repeat (first|refine blk_drewN ?_ _|refine blk_drew ?_|refine blk_alloc ?_ _));exact BK117.out⟩,⟨by repeat (first|(with_reducible first|exact HB.out|apply below_alloc|apply pw_below_drewN|apply below_drew1|refine below_set ?_ GE117.out)|exact HB.out)⟩⟩
     ·rw [if_neg c27] at H
      have c27b0 : ((t119.length : Int) == (t135.length : Int)) = false := beq_eq_false_iff_ne.mpr c27
      have c27b1 : ((t119.length : Int) != (t135.length : Int)) = true := bne_iff_ne.mpr c27
      have c27b2 : (t119.length == t135.length) = false := by first | simpa using c27 | (simp at c27 ⊢; omega)
      (first | rw [c27b0] | (simp only [i64_w, i32_w]; rw [c27b0]) | skip)
      have H' := Aside0.mk H
      clear H
      obtain ⟨Ao30, co30, eo30⟩ := Kd.R_slice HO122.out
      subst eo30
      obtain ⟨Ao31, co31, eo31⟩ := Kd.R_slice HO138.out
      subst eo31
      go_wp2
      go_meet
      case rel => exact ⟨_,(true),(by first|rfl|(simp;done)|(simp [*];done)),H',⟨by first|omega|exact Nat.le_refl _⟩,⟨by (with_reducible repeat (first|apply Kd.R_alloc|apply Kd.R_drewN|apply Kd.R_drew));exact Kd.R_mono HO122.out (fun _ hk => hk.2)⟩,⟨by (with_reducible repeat (first|apply Kd.R_alloc|apply Kd.R_drewN|apply Kd.R_drew));exact Kd.R_mono HO138.out (fun _ hk => hk.2)⟩,⟨by (with_reducible repeat (first|refine blk_drewN ?_ _|refine blk_drew ?_|refine blk_alloc ?_ _));exact BK117.out⟩,⟨by repeat (first|(with_reducible first|exact HB.out|apply below_alloc|apply pw_below_drewN|apply below_drew1|refine below_set ?_ GE117.out)|exact HB.out)⟩⟩
    case rest =>
     clear HC12
     try clear c1
     try clear c2
     try clear p2
     try clear c3
     try clear c5
     try clear c5b0
     try clear c5b1
     try clear c8
     try clear c9
     try clear c10
     try clear c27
     try clear c27b0
     try clear c27b1
     try clear c27b2
     obtain ⟨kq, x46_11, rfl, HA, HJ11, HO_8, HO_11, BK117, HB⟩ := hcut
     cases kq with
     | zero => exact absurd HA.out (by simp [strakelaw18_ReplayMore.j0])
     | succ kj11 =>
      have H := HA.out
      clear HA
      simp only [strakelaw18_ReplayMore.j0] at H
      by_cases c32 : x46_11 = true
      ·subst c32
       have H1 : (some false) = some r := by rw [if_pos rfl] at H; exact H
       clear H
       have H := H1
       clear H1
       obtain rfl := Option.some.inj H
       go_wp2
       go_ret
       exact ⟨by first|rfl|(simp [errW_none,errW_some] <;> rfl)|(simp [*,errW_none,errW_some] <;> rfl),by repeat (first|(with_reducible first|exact HB.out|apply below_alloc|apply pw_below_drewN|apply below_drew1|refine below_set ?_ GE117.out)|exact HB.out)⟩
      ·replace c32 := Bool.eq_false_iff.mpr c32
       subst c32
       have H1 : (strakelaw18_ReplayMore.l0 kj11 t118 t119 t135 0 a2_0 a2_1 a2_2 a2_3 a2_4) = some r := by rw [if_neg (show ¬ (false = true) by decide)] at H;exact H
       clear H
       have H := H1
       clear H1
       have H' := Aside0.mk H
       clear H
       go_wp2
       go_loopg [13] kj11 (fun kq v13 w' => ∃ (x13_2 : Int),v13 = .int .i64 x13_2 ∧ Aside0 (strakelaw18_ReplayMore.l0 kq t118 t119 t135 x13_2 a2_0 a2_1 a2_2 a2_3 a2_4 = some r) ∧ Aside0 (kq ≤ kj11) ∧ Aside0 (Kd.R k33 33 w' w.heap.size (fun k_ => some k_ ≠ (v137 : Value).ownBlock) v121 t119) ∧ Aside0 (Kd.R k33 33 w' w.heap.size (fun k_ => some k_ ≠ (v121 : Value).ownBlock) v137 t135) ∧ Aside0 (w'.heap[gb117]? = some (.cells #[.int .i64 a2_0,.int .i64 a2_1,.int .i64 a2_2,.int .i64 a2_3,.slice a2_4.a a2_4.n a2_4.c] 27 (0,0))) ∧ Aside0 (Below w.heap.size w w'))
       case atStart => exact ⟨(0),(by first|rfl|(simp;done)|(simp [*];done)),H',⟨Nat.le_refl _⟩,⟨by (with_reducible repeat (first|apply Kd.R_alloc|apply Kd.R_drewN|apply Kd.R_drew));exact HO_8.out⟩,⟨by (with_reducible repeat (first|apply Kd.R_alloc|apply Kd.R_drewN|apply Kd.R_drew));exact HO_11.out⟩,⟨by (with_reducible repeat (first|refine blk_drewN ?_ _|refine blk_drew ?_|refine blk_alloc ?_ _));exact BK117.out⟩,⟨by repeat (first|(with_reducible first|exact HB.out|apply below_alloc|apply pw_below_drewN|apply below_drew1|refine below_set ?_ GE117.out)|exact HB.out)⟩⟩
       case round =>
        clear H'
        try clear c1
        try clear c2
        try clear p2
        try clear c3
        try clear c5
        try clear c5b0
        try clear c5b1
        try clear c8
        try clear c9
        try clear c10
        try clear c27
        try clear c27b0
        try clear c27b1
        try clear c27b2
        try clear c32
        try clear p2
        obtain ⟨x13_2, rfl, HA, HK2, HO_8, HO_11, BK117, HB⟩ := hrel
        cases gk with
        | zero => exact absurd HA.out (by simp [strakelaw18_ReplayMore.l0])
        | succ k2 =>
         have H := HA.out
         clear HA
         simp only [strakelaw18_ReplayMore.l0] at H
         by_cases c33 : x13_2 < (t119.length : Int)
         ·rw [if_pos c33] at H
          have c33b0 : decide (x13_2 < (t119.length : Int)) = true := decide_eq_true c33
          clear c33
          by_cases c34 : 0 ≤ x13_2
          ·rw [if_pos c34] at H
           have c34b0 : decide (0 ≤ x13_2) = true := decide_eq_true c34
           clear c34
           by_cases c35 : x13_2 < (t135.length : Int)
           ·rw [if_pos c35] at H
            have c35b0 : decide (x13_2 < (t135.length : Int)) = true := decide_eq_true c35
            clear c35
            by_cases c36 : (((rd_T33 t119 x13_2).f0) == ((rd_T33 t135 x13_2).f0) && (((rd_T33 t119 x13_2).f1) == ((rd_T33 t135 x13_2).f1) && (((rd_T33 t119 x13_2).f2) == ((rd_T33 t135 x13_2).f2)))) = true
            ·rw [if_pos c36] at H
             have c36b0 : (((rd_T33 t119 x13_2).f0) == ((rd_T33 t135 x13_2).f0) && (((rd_T33 t119 x13_2).f1) == ((rd_T33 t135 x13_2).f1) && (((rd_T33 t119 x13_2).f2) == ((rd_T33 t135 x13_2).f2)))) = true := c36
             (try (have c36b1 : decide (((rd_T33 t119 x13_2).f0) = ((rd_T33 t135 x13_2).f0) && (((rd_T33 t119 x13_2).f1) == ((rd_T33 t135 x13_2).f1) && (((rd_T33 t119 x13_2).f2) == ((rd_T33 t135 x13_2).f2)))) = true := by simpa using c36))
             (try (have c36b2 : (((rd_T33 t119 x13_2).f0) == ((rd_T33 t135 x13_2).f0) && (((rd_T33 t119 x13_2).f1) == ((rd_T33 t135 x13_2).f1) && (((rd_T33 t119 x13_2).f2) == ((rd_T33 t135 x13_2).f2)))) = true := by simpa using c36))
             clear c36
             have H' := Aside0.mk H
             clear H
             obtain ⟨Ao37, co37, eo37⟩ := Kd.R_slice HO_8.out
             subst eo37
             try go_wp2
             (try (rw [drewN_self wr];generalize hq_ : World.drewN wr _ = wr;have n0_ : Aside0 (Kd.R k33 33 wr w.heap.size (fun k_ => some k_ ≠ (.slice Ao37 t119.length co37 : Value).ownBlock) v137 t135) := ⟨by rw [← hq_];exact (by (with_reducible repeat (first|apply Kd.R_alloc|apply Kd.R_drewN|apply Kd.R_drew));exact HO_11.out)⟩;have n1_ : Aside0 (Kd.R k33 33 wr w.heap.size (fun k_ => some k_ ≠ (v137 : Value).ownBlock) (.slice Ao37 t119.length co37) t119) := ⟨by rw [← hq_];exact (by (with_reducible repeat (first|apply Kd.R_alloc|apply Kd.R_drewN|apply Kd.R_drew));exact HO_8.out)⟩;have n2_ : Aside0 (wr.heap[gb117]? = some (.cells #[.int .i64 a2_0,.int .i64 a2_1,.int .i64 a2_2,.int .i64 a2_3,.slice a2_4.a a2_4.n a2_4.c] 27 (0,0))) := ⟨by rw [← hq_];exact (by (with_reducible repeat (first|refine blk_drewN ?_ _|refine blk_drew ?_|refine blk_alloc ?_ _));exact BK117.out)⟩;have n3_ : Aside0 (Below w.heap.size w wr) := ⟨by rw [← hq_];exact (by repeat (first|(with_reducible first|exact HB.out|apply below_alloc|apply pw_below_drewN|apply below_drew1|refine below_set ?_ GE117.out)|exact HB.out))⟩;clear HO_11 HO_8 BK117 HB hq_;have HO_11 := n0_;have HO_8 := n1_;have BK117 := n2_;have HB := n3_;clear n0_ n1_ n2_ n3_))
             have n0_ := Aside0.mk (Kd.R_drew HO_8.out)
             have n1_ := Aside0.mk (Kd.R_drew HO_11.out)
             have n2_ := Aside0.mk (blk_drew BK117.out)
             have n3_ := Aside0.mk (below_drew1 HB.out)
             clear HO_8
             clear HO_11
             clear BK117
             clear HB
             have HO_8 := n0_
             have HO_11 := n1_
             have BK117 := n2_
             have HB := n3_
             clear n0_ n1_ n2_ n3_
             have p139 : 0 ≤ (x13_2 : Int) := of_decide_eq_true (by first | (with_reducible assumption) | assumption)
             have q139 : x13_2 < (t119.length : Int) := of_decide_eq_true (by first|(with_reducible assumption)|assumption)
             obtain ⟨ad139, e139, hx139_0, hx139_1, hx139_2⟩ := at_T33 (Kd.R_reads' HO_8.out).2.2 x13_2 p139 q139
             cases e139
             replace p139 := eq_true p139
             replace q139 := eq_true q139
             obtain ⟨Ao39, co39, eo39⟩ := Kd.R_slice HO_11.out
             (first|subst eo39|(injection eo39 with f1_ f2_ f3_;have f4_ := f1_.symm;have f5_ := f3_.symm;clear f1_ f2_ f3_;subst f4_;subst f5_))
             have p140 : 0 ≤ (x13_2 : Int) := of_decide_eq_true (by first | (with_reducible assumption) | assumption)
             have q140 : x13_2 < (t135.length : Int) := of_decide_eq_true (by first|(with_reducible assumption)|assumption)
             obtain ⟨ad140, e140, hx140_0, hx140_1, hx140_2⟩ := at_T33 (Kd.R_reads' HO_11.out).2.2 x13_2 p140 q140
             cases e140
             replace p140 := eq_true p140
             replace q140 := eq_true q140
             refine start_ (n := 9) (S := fun w' => w'.cell? (ad139.add ((x13_2).toNat * 3)) = some (.int .i64 ((rd_T33 t119 x13_2).f0)) ∧ w'.cell? ⟨(ad139.add ((x13_2).toNat * 3)).block,(ad139.add ((x13_2).toNat * 3)).off + 1,none⟩ = some (.int .i64 ((rd_T33 t119 x13_2).f1)) ∧ w'.cell? ⟨(ad139.add ((x13_2).toNat * 3)).block,(ad139.add ((x13_2).toNat * 3)).off + 2,none⟩ = some (.int .i64 ((rd_T33 t119 x13_2).f2)) ∧ w'.cell? (ad140.add ((x13_2).toNat * 3)) = some (.int .i64 ((rd_T33 t135 x13_2).f0)) ∧ w'.cell? ⟨(ad140.add ((x13_2).toNat * 3)).block,(ad140.add ((x13_2).toNat * 3)).off + 1,none⟩ = some (.int .i64 ((rd_T33 t135 x13_2).f1)) ∧ w'.cell? ⟨(ad140.add ((x13_2).toNat * 3)).block,(ad140.add ((x13_2).toNat * 3)).off + 2,none⟩ = some (.int .i64 ((rd_T33 t135 x13_2).f2))) (ds := []) #[false,false,false,false,false,false,false,false,false] (by kernel_rfl) rfl rfl ⟨hx139_0,hx139_1,hx139_2,hx140_0,hx140_1,hx140_2⟩ (fun hHeld => ?_);refine with_tabW strakelaw18_ReplayMore.tab12 strakelaw18_ReplayMore.bits12 (fun HT_ HW_ => ?_)
             generalize wr.drew = w38 at HO_8 HO_11 BK117 HB hx139_0 hx139_1 hx139_2 hx140_0 hx140_1 hx140_2 hHeld ⊢
             refine pure_ (i := 0) (N := some 53) (v := ?_) (a' := ?_) #[true,false,false,false,false,false,false,false,false] rfl rfl (any_of HT_.out (by kernel_rfl)) (fun _ _ _ h => h) (Or.inl ⟨by rfl,?_⟩) ?_ ?_
             rotate_left
             ·intro w'
              go_simp
              with_reducible rfl
             rotate_left
             ·simp only [Act.put, qa, qb, qc, i64_w, i32_w]
              rfl
             refine pure_ (i := 1) (N := some 54) (v := ?_) (a' := ?_) #[true,true,false,false,false,false,false,false,false] rfl rfl (any_of HT_.out (by kernel_rfl)) (fun _ _ _ h => h) (Or.inl ⟨by rfl,?_⟩) ?_ ?_
             rotate_left
             ·intro w'
              go_simp
              with_reducible rfl
             rotate_left
             ·simp only [Act.put, qa, qb, qc, i64_w, i32_w]
              rfl
             refine pure_ (i := 2) (N := some 55) (v := ?_) (a' := ?_) #[true,true,true,false,false,false,false,false,false] rfl rfl (any_of HT_.out (by kernel_rfl)) (fun _ _ _ h => h) (Or.inl ⟨by rfl,?_⟩) ?_ ?_
             rotate_left
             ·intro w'
              go_simp
              with_reducible rfl
             rotate_left
             ·simp only [Act.put, qa, qb, qc, i64_w, i32_w]
              rfl
             refine pure_ (i := 4) (N := some 57) (v := ?_) (a' := ?_) #[true,true,true,false,true,false,false,false,false] rfl rfl (any_of HT_.out (by kernel_rfl)) (fun _ _ _ h => h) (Or.inl ⟨by rfl,?_⟩) ?_ ?_
             rotate_left
             ·intro w'
              go_simp
              with_reducible rfl
             rotate_left
             ·simp only [Act.put, qa, qb, qc, i64_w, i32_w]
              rfl
             refine pure_ (i := 5) (N := some 58) (v := ?_) (a' := ?_) #[true,true,true,false,true,true,false,false,false] rfl rfl (any_of HT_.out (by kernel_rfl)) (fun _ _ _ h => h) (Or.inl ⟨by rfl,?_⟩) ?_ ?_
             rotate_left
             ·intro w'
              go_simp
              with_reducible rfl
             rotate_left
             ·simp only [Act.put, qa, qb, qc, i64_w, i32_w]
              rfl
             refine pure_ (i := 6) (N := some 59) (v := ?_) (a' := ?_) #[true,true,true,false,true,true,true,false,false] rfl rfl (any_of HT_.out (by kernel_rfl)) (fun _ _ _ h => h) (Or.inl ⟨by rfl,?_⟩) ?_ ?_
             rotate_left
             ·intro w'
              go_simp
              with_reducible rfl
             rotate_left
             ·simp only [Act.put, qa, qb, qc, i64_w, i32_w]
              rfl
             refine take_ (i := 3) (N := some 56) (v := ?_) (a' := ?_) #[true,true,true,true,true,true,true,false,false] rfl rfl (take_ofW HT_.out HW_.out (by kernel_rfl)) (fun _ _ _ h => h) (Or.inl ⟨by rfl,?_⟩) hHeld ?_ ?_
             rotate_left
             ·rintro w' ⟨s0, s1, s2, s3, s4, s5⟩
              go_simp
              with_reducible rfl
             rotate_left
             ·simp only [Act.put, qa, qb, qc, i64_w, i32_w]
              rfl
             refine take_ (i := 7) (N := some 60) (v := ?_) (a' := ?_) #[true,true,true,true,true,true,true,true,false] rfl rfl (take_ofW HT_.out HW_.out (by kernel_rfl)) (fun _ _ _ h => h) (Or.inl ⟨by rfl,?_⟩) hHeld ?_ ?_
             rotate_left
             ·rintro w' ⟨s0, s1, s2, s3, s4, s5⟩
              go_simp
              with_reducible rfl
             rotate_left
             ·simp only [Act.put, qa, qb, qc, i64_w, i32_w]
              rfl
             refine pure_ (i := 8) (N := some 61) (v := ?_) (a' := ?_) #[true,true,true,true,true,true,true,true,true] rfl rfl (any_of HT_.out (by kernel_rfl)) (fun _ _ _ h => h) (Or.inl ⟨by rfl,?_⟩) ?_ ?_
             rotate_left
             ·intro w'
              go_simp
              with_reducible rfl
             rotate_left
             ·simp only [Act.put, qa, qb, qc, i64_w, i32_w]
              rfl
             refine done_ (done_of HT_.out (by kernel_rfl)) ?_
             try go_wp2
             go_roundg k2
             case measure => have := HJ11.out; have := HK2.out; omega
             case rel => exact ⟨(wrap64 (x13_2 + 1)),(by first|rfl|(simp;done)|(simp [*];done)),H',⟨by have := HJ11.out;have := HK2.out;omega⟩,⟨by (with_reducible repeat (first|apply Kd.R_alloc|apply Kd.R_drewN|apply Kd.R_drew));exact HO_8.out⟩,⟨by (with_reducible repeat (first|apply Kd.R_alloc|apply Kd.R_drewN|apply Kd.R_drew));exact HO_11.out⟩,⟨by (with_reducible repeat (first|refine blk_drewN ?_ _|refine blk_drew ?_|refine blk_alloc ?_ _));exact BK117.out⟩,⟨by repeat (first|(with_reducible first|exact HB.out|apply below_alloc|apply pw_below_drewN|apply below_drew1|refine below_set ?_ GE117.out)|exact HB.out)⟩⟩
            ·rw [if_neg c36] at H
             have c36b0 : (((rd_T33 t119 x13_2).f0) == ((rd_T33 t135 x13_2).f0) && (((rd_T33 t119 x13_2).f1) == ((rd_T33 t135 x13_2).f1) && (((rd_T33 t119 x13_2).f2) == ((rd_T33 t135 x13_2).f2)))) = false := by simpa using c36
             (try (have c36b1 : decide (((rd_T33 t119 x13_2).f0) = ((rd_T33 t135 x13_2).f0) && (((rd_T33 t119 x13_2).f1) == ((rd_T33 t135 x13_2).f1) && (((rd_T33 t119 x13_2).f2) == ((rd_T33 t135 x13_2).f2)))) = false := by simpa using c36))
             (try (have c36b2 : (((rd_T33 t119 x13_2).f0) == ((rd_T33 t135 x13_2).f0) && (((rd_T33 t119 x13_2).f1) == ((rd_T33 t135 x13_2).f1) && (((rd_T33 t119 x13_2).f2) == ((rd_T33 t135 x13_2).f2)))) = false := by simpa using c36))
             (try (have c36b3 : ¬ (((rd_T33 t119 x13_2).f0) = ((rd_T33 t135 x13_2).f0) && (((rd_T33 t119 x13_2).f1) == ((rd_T33 t135 x13_2).f1) && (((rd_T33 t119 x13_2).f2) == ((rd_T33 t135 x13_2).f2)))) := by simpa using c36))
             clear c36
             have HC40 := Aside0.mk H
             clear H
             obtain ⟨Ao41, co41, eo41⟩ := Kd.R_slice HO_8.out
             subst eo41
             try go_wp2
             (try (rw [drewN_self wr];generalize hq_ : World.drewN wr _ = wr;have n0_ : Aside0 (Kd.R k33 33 wr w.heap.size (fun k_ => some k_ ≠ (.slice Ao41 t119.length co41 : Value).ownBlock) v137 t135) := ⟨by rw [← hq_];exact (by (with_reducible repeat (first|apply Kd.R_alloc|apply Kd.R_drewN|apply Kd.R_drew));exact HO_11.out)⟩;have n1_ : Aside0 (Kd.R k33 33 wr w.heap.size (fun k_ => some k_ ≠ (v137 : Value).ownBlock) (.slice Ao41 t119.length co41) t119) := ⟨by rw [← hq_];exact (by (with_reducible repeat (first|apply Kd.R_alloc|apply Kd.R_drewN|apply Kd.R_drew));exact HO_8.out)⟩;have n2_ : Aside0 (wr.heap[gb117]? = some (.cells #[.int .i64 a2_0,.int .i64 a2_1,.int .i64 a2_2,.int .i64 a2_3,.slice a2_4.a a2_4.n a2_4.c] 27 (0,0))) := ⟨by rw [← hq_];exact (by (with_reducible repeat (first|refine blk_drewN ?_ _|refine blk_drew ?_|refine blk_alloc ?_ _));exact BK117.out)⟩;have n3_ : Aside0 (Below w.heap.size w wr) := ⟨by rw [← hq_];exact (by repeat (first|(with_reducible first|exact HB.out|apply below_alloc|apply pw_below_drewN|apply below_drew1|refine below_set ?_ GE117.out)|exact HB.out))⟩;clear HO_11 HO_8 BK117 HB hq_;have HO_11 := n0_;have HO_8 := n1_;have BK117 := n2_;have HB := n3_;clear n0_ n1_ n2_ n3_))
             have n0_ := Aside0.mk (Kd.R_drew HO_8.out)
             have n1_ := Aside0.mk (Kd.R_drew HO_11.out)
             have n2_ := Aside0.mk (blk_drew BK117.out)
             have n3_ := Aside0.mk (below_drew1 HB.out)
             clear HO_8
             clear HO_11
             clear BK117
             clear HB
             have HO_8 := n0_
             have HO_11 := n1_
             have BK117 := n2_
             have HB := n3_
             clear n0_ n1_ n2_ n3_
             have p139 : 0 ≤ (x13_2 : Int) := of_decide_eq_true (by first | (with_reducible assumption) | assumption)
             have q139 : x13_2 < (t119.length : Int) := of_decide_eq_true (by first|(with_reducible assumption)|assumption)
             obtain ⟨ad139, e139, hx139_0, hx139_1, hx139_2⟩ := at_T33 (Kd.R_reads' HO_8.out).2.2 x13_2 p139 q139
             cases e139
             replace p139 := eq_true p139
             replace q139 := eq_true q139
             obtain ⟨Ao43, co43, eo43⟩ := Kd.R_slice HO_11.out
             (first|subst eo43|(injection eo43 with f1_ f2_ f3_;have f4_ := f1_.symm;have f5_ := f3_.symm;clear f1_ f2_ f3_;subst f4_;subst f5_))
             have p140 : 0 ≤ (x13_2 : Int) := of_decide_eq_true (by first | (with_reducible assumption) | assumption)
             have q140 : x13_2 < (t135.length : Int) := of_decide_eq_true (by first|(with_reducible assumption)|assumption)
             obtain ⟨ad140, e140, hx140_0, hx140_1, hx140_2⟩ := at_T33 (Kd.R_reads' HO_11.out).2.2 x13_2 p140 q140
             cases e140
             replace p140 := eq_true p140
             replace q140 := eq_true q140
             refine start_ (n := 9) (S := fun w' => w'.cell? (ad139.add ((x13_2).toNat * 3)) = some (.int .i64 ((rd_T33 t119 x13_2).f0)) ∧ w'.cell? ⟨(ad139.add ((x13_2).toNat * 3)).block,(ad139.add ((x13_2).toNat * 3)).off + 1,none⟩ = some (.int .i64 ((rd_T33 t119 x13_2).f1)) ∧ w'.cell? ⟨(ad139.add ((x13_2).toNat * 3)).block,(ad139.add ((x13_2).toNat * 3)).off + 2,none⟩ = some (.int .i64 ((rd_T33 t119 x13_2).f2)) ∧ w'.cell? (ad140.add ((x13_2).toNat * 3)) = some (.int .i64 ((rd_T33 t135 x13_2).f0)) ∧ w'.cell? ⟨(ad140.add ((x13_2).toNat * 3)).block,(ad140.add ((x13_2).toNat * 3)).off + 1,none⟩ = some (.int .i64 ((rd_T33 t135 x13_2).f1)) ∧ w'.cell? ⟨(ad140.add ((x13_2).toNat * 3)).block,(ad140.add ((x13_2).toNat * 3)).off + 2,none⟩ = some (.int .i64 ((rd_T33 t135 x13_2).f2))) (ds := []) #[false,false,false,false,false,false,false,false,false] (by kernel_rfl) rfl rfl ⟨hx139_0,hx139_1,hx139_2,hx140_0,hx140_1,hx140_2⟩ (fun hHeld => ?_);refine with_tabW strakelaw18_ReplayMore.tab12 strakelaw18_ReplayMore.bits12 (fun HT_ HW_ => ?_)
             generalize wr.drew = w42 at HO_8 HO_11 BK117 HB hx139_0 hx139_1 hx139_2 hx140_0 hx140_1 hx140_2 hHeld ⊢
             refine pure_ (i := 0) (N := some 53) (v := ?_) (a' := ?_) #[true,false,false,false,false,false,false,false,false] rfl rfl (any_of HT_.out (by kernel_rfl)) (fun _ _ _ h => h) (Or.inl ⟨by rfl,?_⟩) ?_ ?_
             rotate_left
             ·intro w'
              go_simp
              with_reducible rfl
             rotate_left
             ·simp only [Act.put, qa, qb, qc, i64_w, i32_w]
              rfl
             refine pure_ (i := 1) (N := some 54) (v := ?_) (a' := ?_) #[true,true,false,false,false,false,false,false,false] rfl rfl (any_of HT_.out (by kernel_rfl)) (fun _ _ _ h => h) (Or.inl ⟨by rfl,?_⟩) ?_ ?_
             rotate_left
             ·intro w'
              go_simp
              with_reducible rfl
             rotate_left
             ·simp only [Act.put, qa, qb, qc, i64_w, i32_w]
              rfl
             refine pure_ (i := 2) (N := some 55) (v := ?_) (a' := ?_) #[true,true,true,false,false,false,false,false,false] rfl rfl (any_of HT_.out (by kernel_rfl)) (fun _ _ _ h => h) (Or.inl ⟨by rfl,?_⟩) ?_ ?_
             rotate_left
             ·intro w'
              go_simp
              with_reducible rfl
             rotate_left
             ·simp only [Act.put, qa, qb, qc, i64_w, i32_w]
              rfl
             refine pure_ (i := 4) (N := some 57) (v := ?_) (a' := ?_) #[true,true,true,false,true,false,false,false,false] rfl rfl (any_of HT_.out (by kernel_rfl)) (fun _ _ _ h => h) (Or.inl ⟨by rfl,?_⟩) ?_ ?_
             rotate_left
             ·intro w'
              go_simp
              with_reducible rfl
             rotate_left
             ·simp only [Act.put, qa, qb, qc, i64_w, i32_w]
              rfl
             refine pure_ (i := 5) (N := some 58) (v := ?_) (a' := ?_) #[true,true,true,false,true,true,false,false,false] rfl rfl (any_of HT_.out (by kernel_rfl)) (fun _ _ _ h => h) (Or.inl ⟨by rfl,?_⟩) ?_ ?_
             rotate_left
             ·intro w'
              go_simp
              with_reducible rfl
             rotate_left
             ·simp only [Act.put, qa, qb, qc, i64_w, i32_w]
              rfl
             refine pure_ (i := 6) (N := some 59) (v := ?_) (a' := ?_) #[true,true,true,false,true,true,true,false,false] rfl rfl (any_of HT_.out (by kernel_rfl)) (fun _ _ _ h => h) (Or.inl ⟨by rfl,?_⟩) ?_ ?_
             rotate_left
             ·intro w'
              go_simp
              with_reducible rfl
             rotate_left
             ·simp only [Act.put, qa, qb, qc, i64_w, i32_w]
              rfl
             refine take_ (i := 3) (N := some 56) (v := ?_) (a' := ?_) #[true,true,true,true,true,true,true,false,false] rfl rfl (take_ofW HT_.out HW_.out (by kernel_rfl)) (fun _ _ _ h => h) (Or.inl ⟨by rfl,?_⟩) hHeld ?_ ?_
             rotate_left
             ·rintro w' ⟨s0, s1, s2, s3, s4, s5⟩
              go_simp
              with_reducible rfl
             rotate_left
             ·simp only [Act.put, qa, qb, qc, i64_w, i32_w]
              rfl
             refine take_ (i := 7) (N := some 60) (v := ?_) (a' := ?_) #[true,true,true,true,true,true,true,true,false] rfl rfl (take_ofW HT_.out HW_.out (by kernel_rfl)) (fun _ _ _ h => h) (Or.inl ⟨by rfl,?_⟩) hHeld ?_ ?_
             rotate_left
             ·rintro w' ⟨s0, s1, s2, s3, s4, s5⟩
              go_simp
              with_reducible rfl
             rotate_left
             ·simp only [Act.put, qa, qb, qc, i64_w, i32_w]
              rfl
             refine pure_ (i := 8) (N := some 61) (v := ?_) (a' := ?_) #[true,true,true,true,true,true,true,true,true] rfl rfl (any_of HT_.out (by kernel_rfl)) (fun _ _ _ h => h) (Or.inl ⟨by rfl,?_⟩) ?_ ?_
             rotate_left
             ·intro w'
              go_simp
              with_reducible rfl
             rotate_left
             ·simp only [Act.put, qa, qb, qc, i64_w, i32_w]
              rfl
             refine done_ (done_of HT_.out (by kernel_rfl)) ?_
             go_upto_region 13 with (fail)
             go_cut [114] (fun v114 wc => ∃ (kq : Nat) (x114_39 : Bool),v114 = .bool x114_39 ∧ Aside0 (strakelaw18_ReplayMore.j2 kq t118 t119 t135 x13_2 x114_39 a2_0 a2_1 a2_2 a2_3 a2_4 = some r) ∧ Aside0 (kq ≤ k2) ∧ Aside0 (Kd.R k33 33 wc w.heap.size (fun k_ => some k_ ≠ ((.slice (some ad140) t135.length co43) : Value).ownBlock) (.slice (some ad139) t119.length co41) t119) ∧ Aside0 (Kd.R k33 33 wc w.heap.size (fun k_ => some k_ ≠ ((.slice (some ad139) t119.length co41) : Value).ownBlock) (.slice (some ad140) t135.length co43) t135) ∧ Aside0 (wc.heap[gb117]? = some (.cells #[.int .i64 a2_0,.int .i64 a2_1,.int .i64 a2_2,.int .i64 a2_3,.slice a2_4.a a2_4.n a2_4.c] 27 (0,0))) ∧ Aside0 (Below w.heap.size w wc))
             case first =>
              have H := HC40.out
              clear HC40
              by_cases c44 : a2_2 = x13_2
              ·rw [if_pos c44] at H
               have c44b0 : (a2_2 == x13_2) = true := beq_iff_eq.mpr c44
               have c44b1 : (a2_2 != x13_2) = false := bne_eq_false_iff_eq.mpr c44
               clear c44
               (first | rw [c44b0] | (simp only [i64_w, i32_w]; rw [c44b0]) | skip)
               by_cases c45 : (!(((rd_T33 t135 x13_2).f0) == a2_0) || (!(((rd_T33 t135 x13_2).f1) == a2_3) || (!(((rd_T33 t135 x13_2).f2) == a2_1)))) = true
               ·rw [if_pos c45] at H
                have c45b0 : (!(((rd_T33 t135 x13_2).f0) == a2_0) || (!(((rd_T33 t135 x13_2).f1) == a2_3) || (!(((rd_T33 t135 x13_2).f2) == a2_1)))) = true := c45
                clear c45
                have H' := Aside0.mk H
                clear H
                try go_wp2
                (try (rw [drewN_self w42];generalize hq_ : World.drewN w42 _ = w42;have n0_ : Aside0 (Kd.R k33 33 w42 w.heap.size (fun k_ => some k_ ≠ (.slice (some ad139) t119.length co41 : Value).ownBlock) (.slice (some ad140) t135.length co43) t135) := ⟨by rw [← hq_];exact (by (with_reducible repeat (first|apply Kd.R_alloc|apply Kd.R_drewN|apply Kd.R_drew));exact HO_11.out)⟩;have n1_ : Aside0 (Kd.R k33 33 w42 w.heap.size (fun k_ => some k_ ≠ (.slice (some ad140) t135.length co43 : Value).ownBlock) (.slice (some ad139) t119.length co41) t119) := ⟨by rw [← hq_];exact (by (with_reducible repeat (first|apply Kd.R_alloc|apply Kd.R_drewN|apply Kd.R_drew));exact HO_8.out)⟩;have n2_ : Aside0 (w42.heap[gb117]? = some (.cells #[.int .i64 a2_0,.int .i64 a2_1,.int .i64 a2_2,.int .i64 a2_3,.slice a2_4.a a2_4.n a2_4.c] 27 (0,0))) := ⟨by rw [← hq_];exact (by (with_reducible repeat (first|refine blk_drewN ?_ _|refine blk_drew ?_|refine blk_alloc ?_ _));exact BK117.out)⟩;have n3_ : Aside0 (Below w.heap.size w w42) := ⟨by rw [← hq_];exact (by repeat (first|(with_reducible first|exact HB.out|apply below_alloc|apply pw_below_drewN|apply below_drew1|refine below_set ?_ GE117.out)|exact HB.out))⟩;clear HO_11 HO_8 BK117 HB hq_;have HO_11 := n0_;have HO_8 := n1_;have BK117 := n2_;have HB := n3_;clear n0_ n1_ n2_ n3_))
                have n0_ := Aside0.mk (Kd.R_drew HO_8.out)
                have n1_ := Aside0.mk (Kd.R_drew HO_11.out)
                have n2_ := Aside0.mk (blk_drew BK117.out)
                have n3_ := Aside0.mk (below_drew1 HB.out)
                clear HO_8
                clear HO_11
                clear BK117
                clear HB
                have HO_8 := n0_
                have HO_11 := n1_
                have BK117 := n2_
                have HB := n3_
                clear n0_ n1_ n2_ n3_
                have p141 : 0 ≤ (x13_2 : Int) := of_decide_eq_true (by first | (with_reducible assumption) | assumption)
                have q141 : x13_2 < (t135.length : Int) := of_decide_eq_true (by first|(with_reducible assumption)|assumption)
                obtain ⟨ad141, e141, hx141_0, hx141_1, hx141_2⟩ := at_T33 (Kd.R_reads' HO_11.out).2.2 x13_2 p141 q141
                obtain rfl : ad140 = ad141 := (by injection e141)
                replace p141 := eq_true p141
                replace q141 := eq_true q141
                refine start_ (n := 53) (S := fun w' => w'.cell? ⟨gb117,0,none⟩ = some (.int .i64 a2_0) ∧ w'.cell? ⟨gb117,1,none⟩ = some (.int .i64 a2_1) ∧ w'.cell? ⟨gb117,2,none⟩ = some (.int .i64 a2_2) ∧ w'.cell? ⟨gb117,3,none⟩ = some (.int .i64 a2_3) ∧ w'.cell? ⟨gb117,4,none⟩ = some (.slice a2_4.a a2_4.n a2_4.c) ∧ w'.cell? (ad140.add ((x13_2).toNat * 3)) = some (.int .i64 ((rd_T33 t135 x13_2).f0)) ∧ w'.cell? ⟨(ad140.add ((x13_2).toNat * 3)).block,(ad140.add ((x13_2).toNat * 3)).off + 1,none⟩ = some (.int .i64 ((rd_T33 t135 x13_2).f1)) ∧ w'.cell? ⟨(ad140.add ((x13_2).toNat * 3)).block,(ad140.add ((x13_2).toNat * 3)).off + 2,none⟩ = some (.int .i64 ((rd_T33 t135 x13_2).f2))) (ds := []) #[false,false,false,false,false,false,false,false,false,false,false,false,false,false,false,false,false,false,false,false,false,false,false,false,false,false,false,false,false,false,false,false,false,false,false,false,false,false,false,false,false,false,false,false,false,false,false,false,false,false,false,false,false] (by kernel_rfl) rfl rfl ⟨(blk_cell BK117.out 0).trans rfl,(blk_cell BK117.out 1).trans rfl,(blk_cell BK117.out 2).trans rfl,(blk_cell BK117.out 3).trans rfl,(blk_cell BK117.out 4).trans rfl,hx141_0,hx141_1,hx141_2⟩ (fun hHeld => ?_);refine with_tabW strakelaw18_ReplayMore.tab13 strakelaw18_ReplayMore.bits13 (fun HT_ HW_ => ?_)
                generalize w42.drew = w46 at HO_8 HO_11 BK117 HB hx141_0 hx141_1 hx141_2 hHeld ⊢
                refine pure_ (i := 0) (N := some 62) (v := ?_) (a' := ?_) #[true,false,false,false,false,false,false,false,false,false,false,false,false,false,false,false,false,false,false,false,false,false,false,false,false,false,false,false,false,false,false,false,false,false,false,false,false,false,false,false,false,false,false,false,false,false,false,false,false,false,false,false,false] rfl rfl (any_of HT_.out (by kernel_rfl)) (fun _ _ _ h => h) (Or.inl ⟨by rfl,?_⟩) ?_ ?_
                rotate_left
                ·intro w'
                 go_simp
                 with_reducible rfl
                rotate_left
                ·simp only [Act.put, qa, qb, qc, i64_w, i32_w]
                 rfl
                refine pure_ (i := 1) (N := some 63) (v := ?_) (a' := ?_) #[true,true,false,false,false,false,false,false,false,false,false,false,false,false,false,false,false,false,false,false,false,false,false,false,false,false,false,false,false,false,false,false,false,false,false,false,false,false,false,false,false,false,false,false,false,false,false,false,false,false,false,false,false] rfl rfl (any_of HT_.out (by kernel_rfl)) (fun _ _ _ h => h) (Or.inl ⟨by rfl,?_⟩) ?_ ?_
                rotate_left
                ·intro w'
                 go_simp
                 with_reducible rfl
                rotate_left
                ·simp only [Act.put, qa, qb, qc, i64_w, i32_w]
                 rfl
                refine pure_ (i := 3) (N := some 65) (v := ?_) (a' := ?_) #[true,true,false,true,false,false,false,false,false,false,false,false,false,false,false,false,false,false,false,false,false,false,false,false,false,false,false,false,false,false,false,false,false,false,false,false,false,false,false,false,false,false,false,false,false,false,false,false,false,false,false,false,false] rfl rfl (any_of HT_.out (by kernel_rfl)) (fun _ _ _ h => h) (Or.inl ⟨by rfl,?_⟩) ?_ ?_
                rotate_left
                ·intro w'
                 go_simp
                 with_reducible rfl
                rotate_left
                ·simp only [Act.put, qa, qb, qc, i64_w, i32_w]
                 rfl
                refine take_ (i := 2) (N := some 64) (v := ?_) (a' := ?_) #[true,true,true,true,false,false,false,false,false,false,false,false,false,false,false,false,false,false,false,false,false,false,false,false,false,false,false,false,false,false,false,false,false,false,false,false,false,false,false,false,false,false,false,false,false,false,false,false,false,false,false,false,false] rfl rfl (take_ofW HT_.out HW_.out (by kernel_rfl)) (fun _ _ _ h => h) (Or.inl ⟨by rfl,?_⟩) hHeld ?_ ?_
                rotate_left
                ·rintro w' ⟨s0, s1, s2, s3, s4, s5, s6, s7⟩
                 go_simp
                 with_reducible rfl
                rotate_left
                ·simp only [Act.put, qa, qb, qc, i64_w, i32_w]
                 rfl
                refine pure_ (i := 4) (N := some 66) (v := ?_) (a' := ?_) #[true,true,true,true,true,false,false,false,false,false,false,false,false,false,false,false,false,false,false,false,false,false,false,false,false,false,false,false,false,false,false,false,false,false,false,false,false,false,false,false,false,false,false,false,false,false,false,false,false,false,false,false,false] rfl rfl (any_of HT_.out (by kernel_rfl)) (fun _ _ _ h => h) (Or.inl ⟨by rfl,?_⟩) ?_ ?_
                rotate_left
                ·intro w'
                 go_simp
                 with_reducible rfl
                rotate_left
                ·simp only [Act.put, qa, qb, qc, i64_w, i32_w]
                 rfl
                refine pure_ (i := 5) (N := some 67) (v := ?_) (a' := ?_) #[true,true,true,true,true,true,false,false,false,false,false,false,false,false,false,false,false,false,false,false,false,false,false,false,false,false,false,false,false,false,false,false,false,false,false,false,false,false,false,false,false,false,false,false,false,false,false,false,false,false,false,false,false] rfl rfl (any_of HT_.out (by kernel_rfl)) (fun _ _ _ h => h) (Or.inl ⟨by rfl,?_⟩) ?_ ?_
                rotate_left
                ·intro w'
                 go_simp
                 with_reducible rfl
                rotate_left
                ·simp only [Act.put, qa, qb, qc, i64_w, i32_w]
                 rfl
                refine pure_ (i := 6) (N := some 68) (v := ?_) (a' := ?_) #[true,true,true,true,true,true,true,false,false,false,false,false,false,false,false,false,false,false,false,false,false,false,false,false,false,false,false,false,false,false,false,false,false,false,false,false,false,false,false,false,false,false,false,false,false,false,false,false,false,false,false,false,false] rfl rfl (any_of HT_.out (by kernel_rfl)) (fun _ _ _ h => h) (Or.inl ⟨by rfl,?_⟩) ?_ ?_
                rotate_left
                ·intro w'
                 go_simp
                 with_reducible rfl
                rotate_left
                ·simp only [Act.put, qa, qb, qc, i64_w, i32_w]
                 rfl
                refine pure_ (i := 7) (N := some 69) (v := ?_) (a' := ?_) #[true,true,true,true,true,true,true,true,false,false,false,false,false,false,false,false,false,false,false,false,false,false,false,false,false,false,false,false,false,false,false,false,false,false,false,false,false,false,false,false,false,false,false,false,false,false,false,false,false,false,false,false,false] rfl rfl (any_of HT_.out (by kernel_rfl)) (fun _ _ _ h => h) (Or.inl ⟨by rfl,?_⟩) ?_ ?_
                rotate_left
                ·intro w'
                 go_simp
                 with_reducible rfl
                rotate_left
                ·simp only [Act.put, qa, qb, qc, i64_w, i32_w]
                 rfl
                refine pure_ (i := 8) (N := some 70) (v := ?_) (a' := ?_) #[true,true,true,true,true,true,true,true,true,false,false,false,false,false,false,false,false,false,false,false,false,false,false,false,false,false,false,false,false,false,false,false,false,false,false,false,false,false,false,false,false,false,false,false,false,false,false,false,false,false,false,false,false] rfl rfl (any_of HT_.out (by kernel_rfl)) (fun _ _ _ h => h) (Or.inl ⟨by rfl,?_⟩) ?_ ?_
                rotate_left
                ·intro w'
                 go_simp
                 with_reducible rfl
                rotate_left
                ·simp only [Act.put, qa, qb, qc, i64_w, i32_w]
                 rfl
                refine pure_ (i := 10) (N := some 72) (v := ?_) (a' := ?_) #[true,true,true,true,true,true,true,true,true,false,true,false,false,false,false,false,false,false,false,false,false,false,false,false,false,false,false,false,false,false,false,false,false,false,false,false,false,false,false,false,false,false,false,false,false,false,false,false,false,false,false,false,false] rfl rfl (any_of HT_.out (by kernel_rfl)) (fun _ _ _ h => h) (Or.inl ⟨by rfl,?_⟩) ?_ ?_
                rotate_left
                ·intro w'
                 go_simp
                 with_reducible rfl
                rotate_left
                ·simp only [Act.put, qa, qb, qc, i64_w, i32_w]
                 rfl
                refine pure_ (i := 12) (N := some 74) (v := ?_) (a' := ?_) #[true,true,true,true,true,true,true,true,true,false,true,false,true,false,false,false,false,false,false,false,false,false,false,false,false,false,false,false,false,false,false,false,false,false,false,false,false,false,false,false,false,false,false,false,false,false,false,false,false,false,false,false,false] rfl rfl (any_of HT_.out (by kernel_rfl)) (fun _ _ _ h => h) (Or.inl ⟨by rfl,?_⟩) ?_ ?_
                rotate_left
                ·intro w'
                 go_simp
                 with_reducible rfl
                rotate_left
                ·simp only [Act.put, qa, qb, qc, i64_w, i32_w]
                 rfl
                refine pure_ (i := 13) (N := some 75) (v := ?_) (a' := ?_) #[true,true,true,true,true,true,true,true,true,false,true,false,true,true,false,false,false,false,false,false,false,false,false,false,false,false,false,false,false,false,false,false,false,false,false,false,false,false,false,false,false,false,false,false,false,false,false,false,false,false,false,false,false] rfl rfl (any_of HT_.out (by kernel_rfl)) (fun _ _ _ h => h) (Or.inl ⟨by rfl,?_⟩) ?_ ?_
                rotate_left
                ·intro w'
                 go_simp
                 with_reducible rfl
                rotate_left
                ·simp only [Act.put, qa, qb, qc, i64_w, i32_w]
                 rfl
                refine pure_ (i := 15) (N := some 77) (v := ?_) (a' := ?_) #[true,true,true,true,true,true,true,true,true,false,true,false,true,true,false,true,false,false,false,false,false,false,false,false,false,false,false,false,false,false,false,false,false,false,false,false,false,false,false,false,false,false,false,false,false,false,false,false,false,false,false,false,false] rfl rfl (any_of HT_.out (by kernel_rfl)) (fun _ _ _ h => h) (Or.inl ⟨by rfl,?_⟩) ?_ ?_
                rotate_left
                ·intro w'
                 go_simp
                 with_reducible rfl
                rotate_left
                ·simp only [Act.put, qa, qb, qc, i64_w, i32_w]
                 rfl
                refine pure_ (i := 16) (N := some 78) (v := ?_) (a' := ?_) #[true,true,true,true,true,true,true,true,true,false,true,false,true,true,false,true,true,false,false,false,false,false,false,false,false,false,false,false,false,false,false,false,false,false,false,false,false,false,false,false,false,false,false,false,false,false,false,false,false,false,false,false,false] rfl rfl (any_of HT_.out (by kernel_rfl)) (fun _ _ _ h => h) (Or.inl ⟨by rfl,?_⟩) ?_ ?_
                rotate_left
                ·intro w'
                 go_simp
                 with_reducible rfl
                rotate_left
                ·simp only [Act.put, qa, qb, qc, i64_w, i32_w]
                 rfl
                refine take_ (i := 9) (N := some 71) (v := ?_) (a' := ?_) #[true,true,true,true,true,true,true,true,true,true,true,false,true,true,false,true,true,false,false,false,false,false,false,false,false,false,false,false,false,false,false,false,false,false,false,false,false,false,false,false,false,false,false,false,false,false,false,false,false,false,false,false,false] rfl rfl (take_ofW HT_.out HW_.out (by kernel_rfl)) (fun _ _ _ h => h) (Or.inl ⟨by rfl,?_⟩) hHeld ?_ ?_
                rotate_left
                ·rintro w' ⟨s0, s1, s2, s3, s4, s5, s6, s7⟩
                 go_simp
                 with_reducible rfl
                rotate_left
                ·simp only [Act.put, qa, qb, qc, i64_w, i32_w]
                 rfl
                refine take_ (i := 11) (N := some 73) (v := ?_) (a' := ?_) #[true,true,true,true,true,true,true,true,true,true,true,true,true,true,false,true,true,false,false,false,false,false,false,false,false,false,false,false,false,false,false,false,false,false,false,false,false,false,false,false,false,false,false,false,false,false,false,false,false,false,false,false,false] rfl rfl (take_ofW HT_.out HW_.out (by kernel_rfl)) (fun _ _ _ h => h) (Or.inl ⟨by rfl,?_⟩) hHeld ?_ ?_
                rotate_left
                ·rintro w' ⟨s0, s1, s2, s3, s4, s5, s6, s7⟩
                 go_simp
                 with_reducible rfl
                rotate_left
                ·simp only [Act.put, qa, qb, qc, i64_w, i32_w]
                 rfl
                refine take_ (i := 14) (N := some 76) (v := ?_) (a' := ?_) #[true,true,true,true,true,true,true,true,true,true,true,true,true,true,true,true,true,false,false,false,false,false,false,false,false,false,false,false,false,false,false,false,false,false,false,false,false,false,false,false,false,false,false,false,false,false,false,false,false,false,false,false,false] rfl rfl (take_ofW HT_.out HW_.out (by kernel_rfl)) (fun _ _ _ h => h) (Or.inl ⟨by rfl,?_⟩) hHeld ?_ ?_
                rotate_left
                ·rintro w' ⟨s0, s1, s2, s3, s4, s5, s6, s7⟩
                 go_simp
                 with_reducible rfl
                rotate_left
                ·simp only [Act.put, qa, qb, qc, i64_w, i32_w]
                 rfl
                refine take_ (i := 17) (N := some 79) (v := ?_) (a' := ?_) #[true,true,true,true,true,true,true,true,true,true,true,true,true,true,true,true,true,true,false,false,false,false,false,false,false,false,false,false,false,false,false,false,false,false,false,false,false,false,false,false,false,false,false,false,false,false,false,false,false,false,false,false,false] rfl rfl (take_ofW HT_.out HW_.out (by kernel_rfl)) (fun _ _ _ h => h) (Or.inl ⟨by rfl,?_⟩) hHeld ?_ ?_
                rotate_left
                ·rintro w' ⟨s0, s1, s2, s3, s4, s5, s6, s7⟩
                 go_simp
                 with_reducible rfl
                rotate_left
                ·simp only [Act.put, qa, qb, qc, i64_w, i32_w]
                 rfl
                refine pure_ (i := 18) (N := some 80) (v := ?_) (a' := ?_) #[true,true,true,true,true,true,true,true,true,true,true,true,true,true,true,true,true,true,true,false,false,false,false,false,false,false,false,false,false,false,false,false,false,false,false,false,false,false,false,false,false,false,false,false,false,false,false,false,false,false,false,false,false] rfl rfl (any_of HT_.out (by kernel_rfl)) (fun _ _ _ h => h) (Or.inl ⟨by rfl,?_⟩) ?_ ?_
                rotate_left
                ·intro w'
                 go_simp
                 with_reducible rfl
                rotate_left
                ·simp only [Act.put, qa, qb, qc, i64_w, i32_w]
                 rfl
                refine pure_ (i := 19) (N := some 81) (v := ?_) (a' := ?_) #[true,true,true,true,true,true,true,true,true,true,true,true,true,true,true,true,true,true,true,true,false,false,false,false,false,false,false,false,false,false,false,false,false,false,false,false,false,false,false,false,false,false,false,false,false,false,false,false,false,false,false,false,false] rfl rfl (any_of HT_.out (by kernel_rfl)) (fun _ _ _ h => h) (Or.inl ⟨by rfl,?_⟩) ?_ ?_
                rotate_left
                ·intro w'
                 go_simp
                 with_reducible rfl
                rotate_left
                ·simp only [Act.put, qa, qb, qc, i64_w, i32_w]
                 rfl
                refine pure_ (i := 20) (N := some 82) (v := ?_) (a' := ?_) #[true,true,true,true,true,true,true,true,true,true,true,true,true,true,true,true,true,true,true,true,true,false,false,false,false,false,false,false,false,false,false,false,false,false,false,false,false,false,false,false,false,false,false,false,false,false,false,false,false,false,false,false,false] rfl rfl (any_of HT_.out (by kernel_rfl)) (fun _ _ _ h => h) (Or.inl ⟨by rfl,?_⟩) ?_ ?_
                rotate_left
                ·intro w'
                 go_simp
                 with_reducible rfl
                rotate_left
                ·simp only [Act.put, qa, qb, qc, i64_w, i32_w]
                 rfl
                refine pure_ (i := 21) (N := some 83) (v := ?_) (a' := ?_) #[true,true,true,true,true,true,true,true,true,true,true,true,true,true,true,true,true,true,true,true,true,true,false,false,false,false,false,false,false,false,false,false,false,false,false,false,false,false,false,false,false,false,false,false,false,false,false,false,false,false,false,false,false] rfl rfl (any_of HT_.out (by kernel_rfl)) (fun _ _ _ h => h) (Or.inl ⟨by rfl,?_⟩) ?_ ?_
                rotate_left
                ·intro w'
                 go_simp
                 with_reducible rfl
                rotate_left
                ·simp only [Act.put, qa, qb, qc, i64_w, i32_w]
                 rfl
                refine pure_ (i := 22) (N := some 84) (v := undef) (a' := ?_) #[true,true,true,true,true,true,true,true,true,true,true,true,true,true,true,true,true,true,true,true,true,true,true,false,false,false,false,false,false,false,false,false,false,false,false,false,false,false,false,false,false,false,false,false,false,false,false,false,false,false,false,false,false] rfl rfl (any_of HT_.out (by kernel_rfl)) (fun _ _ _ h => h) (Or.inr ⟨by rfl,rfl⟩) ?_ ?_
                rotate_left
                ·simp only [Act.put, qa, qb, qc, i64_w, i32_w]
                 rfl
                refine pure_ (i := 23) (N := some 85) (v := undef) (a' := ?_) #[true,true,true,true,true,true,true,true,true,true,true,true,true,true,true,true,true,true,true,true,true,true,true,true,false,false,false,false,false,false,false,false,false,false,false,false,false,false,false,false,false,false,false,false,false,false,false,false,false,false,false,false,false] rfl rfl (any_of HT_.out (by kernel_rfl)) (fun _ _ _ h => h) (Or.inr ⟨by rfl,rfl⟩) ?_ ?_
                rotate_left
                ·simp only [Act.put, qa, qb, qc, i64_w, i32_w]
                 rfl
                refine pure_ (i := 24) (N := some 86) (v := undef) (a' := ?_) #[true,true,true,true,true,true,true,true,true,true,true,true,true,true,true,true,true,true,true,true,true,true,true,true,true,false,false,false,false,false,false,false,false,false,false,false,false,false,false,false,false,false,false,false,false,false,false,false,false,false,false,false,false] rfl rfl (any_of HT_.out (by kernel_rfl)) (fun _ _ _ h => h) (Or.inr ⟨by rfl,rfl⟩) ?_ ?_
                rotate_left
                ·simp only [Act.put, qa, qb, qc, i64_w, i32_w]
                 rfl
                refine pure_ (i := 25) (N := some 87) (v := undef) (a' := ?_) #[true,true,true,true,true,true,true,true,true,true,true,true,true,true,true,true,true,true,true,true,true,true,true,true,true,true,false,false,false,false,false,false,false,false,false,false,false,false,false,false,false,false,false,false,false,false,false,false,false,false,false,false,false] rfl rfl (any_of HT_.out (by kernel_rfl)) (fun _ _ _ h => h) (Or.inr ⟨by rfl,rfl⟩) ?_ ?_
                rotate_left
                ·simp only [Act.put, qa, qb, qc, i64_w, i32_w]
                 rfl
                refine pure_ (i := 26) (N := some 88) (v := undef) (a' := ?_) #[true,true,true,true,true,true,true,true,true,true,true,true,true,true,true,true,true,true,true,true,true,true,true,true,true,true,true,false,false,false,false,false,false,false,false,false,false,false,false,false,false,false,false,false,false,false,false,false,false,false,false,false,false] rfl rfl (any_of HT_.out (by kernel_rfl)) (fun _ _ _ h => h) (Or.inr ⟨by rfl,rfl⟩) ?_ ?_
                rotate_left
                ·simp only [Act.put, qa, qb, qc, i64_w, i32_w]
                 rfl
                refine pure_ (i := 27) (N := some 89) (v := undef) (a' := ?_) #[true,true,true,true,true,true,true,true,true,true,true,true,true,true,true,true,true,true,true,true,true,true,true,true,true,true,true,true,false,false,false,false,false,false,false,false,false,false,false,false,false,false,false,false,false,false,false,false,false,false,false,false,false] rfl rfl (any_of HT_.out (by kernel_rfl)) (fun _ _ _ h => h) (Or.inr ⟨by rfl,rfl⟩) ?_ ?_
                rotate_left
                ·simp only [Act.put, qa, qb, qc, i64_w, i32_w]
                 rfl
                refine pure_ (i := 28) (N := some 90) (v := undef) (a' := ?_) #[true,true,true,true,true,true,true,true,true,true,true,true,true,true,true,true,true,true,true,true,true,true,true,true,true,true,true,true,true,false,false,false,false,false,false,false,false,false,false,false,false,false,false,false,false,false,false,false,false,false,false,false,false] rfl rfl (any_of HT_.out (by kernel_rfl)) (fun _ _ _ h => h) (Or.inr ⟨by rfl,rfl⟩) ?_ ?_
                rotate_left
                ·simp only [Act.put, qa, qb, qc, i64_w, i32_w]
                 rfl
                refine pure_ (i := 29) (N := some 91) (v := undef) (a' := ?_) #[true,true,true,true,true,true,true,true,true,true,true,true,true,true,true,true,true,true,true,true,true,true,true,true,true,true,true,true,true,true,false,false,false,false,false,false,false,false,false,false,false,false,false,false,false,false,false,false,false,false,false,false,false] rfl rfl (any_of HT_.out (by kernel_rfl)) (fun _ _ _ h => h) (Or.inr ⟨by rfl,rfl⟩) ?_ ?_
                rotate_left
                ·simp only [Act.put, qa, qb, qc, i64_w, i32_w]
                 rfl
                refine pure_ (i := 30) (N := some 92) (v := undef) (a' := ?_) #[true,true,true,true,true,true,true,true,true,true,true,true,true,true,true,true,true,true,true,true,true,true,true,true,true,true,true,true,true,true,true,false,false,false,false,false,false,false,false,false,false,false,false,false,false,false,false,false,false,false,false,false,false] rfl rfl (any_of HT_.out (by kernel_rfl)) (fun _ _ _ h => h) (Or.inr ⟨by rfl,rfl⟩) ?_ ?_
                rotate_left
                ·simp only [Act.put, qa, qb, qc, i64_w, i32_w]
                 rfl
                refine pure_ (i := 31) (N := some 93) (v := ?_) (a' := ?_) #[true,true,true,true,true,true,true,true,true,true,true,true,true,true,true,true,true,true,true,true,true,true,true,true,true,true,true,true,true,true,true,true,false,false,false,false,false,false,false,false,false,false,false,false,false,false,false,false,false,false,false,false,false] rfl rfl (any_of HT_.out (by kernel_rfl)) (fun _ _ _ h => h) (Or.inl ⟨by rfl,?_⟩) ?_ ?_
                rotate_left
                ·intro w'
                 go_simp
                 with_reducible rfl
                rotate_left
                ·simp only [Act.put, qa, qb, qc, i64_w, i32_w]
                 rfl
                refine pure_ (i := 32) (N := some 94) (v := ?_) (a' := ?_) #[true,true,true,true,true,true,true,true,true,true,true,true,true,true,true,true,true,true,true,true,true,true,true,true,true,true,true,true,true,true,true,true,true,false,false,false,false,false,false,false,false,false,false,false,false,false,false,false,false,false,false,false,false] rfl rfl (any_of HT_.out (by kernel_rfl)) (fun _ _ _ h => h) (Or.inl ⟨by rfl,?_⟩) ?_ ?_
                rotate_left
                ·intro w'
                 go_simp
                 with_reducible rfl
                rotate_left
                ·simp only [Act.put, qa, qb, qc, i64_w, i32_w]
                 rfl
                refine pure_ (i := 33) (N := some 95) (v := undef) (a' := ?_) #[true,true,true,true,true,true,true,true,true,true,true,true,true,true,true,true,true,true,true,true,true,true,true,true,true,true,true,true,true,true,true,true,true,true,false,false,false,false,false,false,false,false,false,false,false,false,false,false,false,false,false,false,false] rfl rfl (any_of HT_.out (by kernel_rfl)) (fun _ _ _ h => h) (Or.inr ⟨by rfl,rfl⟩) ?_ ?_
                rotate_left
                ·simp only [Act.put, qa, qb, qc, i64_w, i32_w]
                 rfl
                refine pure_ (i := 34) (N := some 96) (v := undef) (a' := ?_) #[true,true,true,true,true,true,true,true,true,true,true,true,true,true,true,true,true,true,true,true,true,true,true,true,true,true,true,true,true,true,true,true,true,true,true,false,false,false,false,false,false,false,false,false,false,false,false,false,false,false,false,false,false] rfl rfl (any_of HT_.out (by kernel_rfl)) (fun _ _ _ h => h) (Or.inr ⟨by rfl,rfl⟩) ?_ ?_
                rotate_left
                ·simp only [Act.put, qa, qb, qc, i64_w, i32_w]
                 rfl
                refine pure_ (i := 35) (N := some 97) (v := undef) (a' := ?_) #[true,true,true,true,true,true,true,true,true,true,true,true,true,true,true,true,true,true,true,true,true,true,true,true,true,true,true,true,true,true,true,true,true,true,true,true,false,false,false,false,false,false,false,false,false,false,false,false,false,false,false,false,false] rfl rfl (any_of HT_.out (by kernel_rfl)) (fun _ _ _ h => h) (Or.inr ⟨by rfl,rfl⟩) ?_ ?_
                rotate_left
                ·simp only [Act.put, qa, qb, qc, i64_w, i32_w]
                 rfl
                refine pure_ (i := 36) (N := some 98) (v := undef) (a' := ?_) #[true,true,true,true,true,true,true,true,true,true,true,true,true,true,true,true,true,true,true,true,true,true,true,true,true,true,true,true,true,true,true,true,true,true,true,true,true,false,false,false,false,false,false,false,false,false,false,false,false,false,false,false,false] rfl rfl (any_of HT_.out (by kernel_rfl)) (fun _ _ _ h => h) (Or.inr ⟨by rfl,rfl⟩) ?_ ?_
                rotate_left
                ·simp only [Act.put, qa, qb, qc, i64_w, i32_w]
                 rfl
                refine pure_ (i := 37) (N := some 99) (v := undef) (a' := ?_) #[true,true,true,true,true,true,true,true,true,true,true,true,true,true,true,true,true,true,true,true,true,true,true,true,true,true,true,true,true,true,true,true,true,true,true,true,true,true,false,false,false,false,false,false,false,false,false,false,false,false,false,false,false] rfl rfl (any_of HT_.out (by kernel_rfl)) (fun _ _ _ h => h) (Or.inr ⟨by rfl,rfl⟩) ?_ ?_
                rotate_left
                ·simp only [Act.put, qa, qb, qc, i64_w, i32_w]
                 rfl
                refine pure_ (i := 38) (N := some 100) (v := undef) (a' := ?_) #[true,true,true,true,true,true,true,true,true,true,true,true,true,true,true,true,true,true,true,true,true,true,true,true,true,true,true,true,true,true,true,true,true,true,true,true,true,true,true,false,false,false,false,false,false,false,false,false,false,false,false,false,false] rfl rfl (any_of HT_.out (by kernel_rfl)) (fun _ _ _ h => h) (Or.inr ⟨by rfl,rfl⟩) ?_ ?_
                rotate_left
                ·simp only [Act.put, qa, qb, qc, i64_w, i32_w]
                 rfl
                refine pure_ (i := 39) (N := some 101) (v := undef) (a' := ?_) #[true,true,true,true,true,true,true,true,true,true,true,true,true,true,true,true,true,true,true,true,true,true,true,true,true,true,true,true,true,true,true,true,true,true,true,true,true,true,true,true,false,false,false,false,false,false,false,false,false,false,false,false,false] rfl rfl (any_of HT_.out (by kernel_rfl)) (fun _ _ _ h => h) (Or.inr ⟨by rfl,rfl⟩) ?_ ?_
                rotate_left
                ·simp only [Act.put, qa, qb, qc, i64_w, i32_w]
                 rfl
                refine pure_ (i := 40) (N := some 102) (v := undef) (a' := ?_) #[true,true,true,true,true,true,true,true,true,true,true,true,true,true,true,true,true,true,true,true,true,true,true,true,true,true,true,true,true,true,true,true,true,true,true,true,true,true,true,true,true,false,false,false,false,false,false,false,false,false,false,false,false] rfl rfl (any_of HT_.out (by kernel_rfl)) (fun _ _ _ h => h) (Or.inr ⟨by rfl,rfl⟩) ?_ ?_
                rotate_left
                ·simp only [Act.put, qa, qb, qc, i64_w, i32_w]
                 rfl
                refine pure_ (i := 41) (N := some 103) (v := undef) (a' := ?_) #[true,true,true,true,true,true,true,true,true,true,true,true,true,true,true,true,true,true,true,true,true,true,true,true,true,true,true,true,true,true,true,true,true,true,true,true,true,true,true,true,true,true,false,false,false,false,false,false,false,false,false,false,false] rfl rfl (any_of HT_.out (by kernel_rfl)) (fun _ _ _ h => h) (Or.inr ⟨by rfl,rfl⟩) ?_ ?_
                rotate_left
                ·simp only [Act.put, qa, qb, qc, i64_w, i32_w]
                 rfl
                refine pure_ (i := 42) (N := some 104) (v := undef) (a' := ?_) #[true,true,true,true,true,true,true,true,true,true,true,true,true,true,true,true,true,true,true,true,true,true,true,true,true,true,true,true,true,true,true,true,true,true,true,true,true,true,true,true,true,true,true,false,false,false,false,false,false,false,false,false,false] rfl rfl (any_of HT_.out (by kernel_rfl)) (fun _ _ _ h => h) (Or.inr ⟨by rfl,rfl⟩) ?_ ?_
                rotate_left
                ·simp only [Act.put, qa, qb, qc, i64_w, i32_w]
                 rfl
                refine pure_ (i := 43) (N := some 105) (v := undef) (a' := ?_) #[true,true,true,true,true,true,true,true,true,true,true,true,true,true,true,true,true,true,true,true,true,true,true,true,true,true,true,true,true,true,true,true,true,true,true,true,true,true,true,true,true,true,true,true,false,false,false,false,false,false,false,false,false] rfl rfl (any_of HT_.out (by kernel_rfl)) (fun _ _ _ h => h) (Or.inr ⟨by rfl,rfl⟩) ?_ ?_
                rotate_left
                ·simp only [Act.put, qa, qb, qc, i64_w, i32_w]
                 rfl
                refine pure_ (i := 44) (N := some 106) (v := undef) (a' := ?_) #[true,true,true,true,true,true,true,true,true,true,true,true,true,true,true,true,true,true,true,true,true,true,true,true,true,true,true,true,true,true,true,true,true,true,true,true,true,true,true,true,true,true,true,true,true,false,false,false,false,false,false,false,false] rfl rfl (any_of HT_.out (by kernel_rfl)) (fun _ _ _ h => h) (Or.inr ⟨by rfl,rfl⟩) ?_ ?_
                rotate_left
                ·simp only [Act.put, qa, qb, qc, i64_w, i32_w]
                 rfl
                refine pure_ (i := 45) (N := some 107) (v := undef) (a' := ?_) #[true,true,true,true,true,true,true,true,true,true,true,true,true,true,true,true,true,true,true,true,true,true,true,true,true,true,true,true,true,true,true,true,true,true,true,true,true,true,true,true,true,true,true,true,true,true,false,false,false,false,false,false,false] rfl rfl (any_of HT_.out (by kernel_rfl)) (fun _ _ _ h => h) (Or.inr ⟨by rfl,rfl⟩) ?_ ?_
                rotate_left
                ·simp only [Act.put, qa, qb, qc, i64_w, i32_w]
                 rfl
                refine pure_ (i := 46) (N := some 108) (v := undef) (a' := ?_) #[true,true,true,true,true,true,true,true,true,true,true,true,true,true,true,true,true,true,true,true,true,true,true,true,true,true,true,true,true,true,true,true,true,true,true,true,true,true,true,true,true,true,true,true,true,true,true,false,false,false,false,false,false] rfl rfl (any_of HT_.out (by kernel_rfl)) (fun _ _ _ h => h) (Or.inr ⟨by rfl,rfl⟩) ?_ ?_
                rotate_left
                ·simp only [Act.put, qa, qb, qc, i64_w, i32_w]
                 rfl
                refine pure_ (i := 47) (N := some 109) (v := undef) (a' := ?_) #[true,true,true,true,true,true,true,true,true,true,true,true,true,true,true,true,true,true,true,true,true,true,true,true,true,true,true,true,true,true,true,true,true,true,true,true,true,true,true,true,true,true,true,true,true,true,true,true,false,false,false,false,false] rfl rfl (any_of HT_.out (by kernel_rfl)) (fun _ _ _ h => h) (Or.inr ⟨by rfl,rfl⟩) ?_ ?_
                rotate_left
                ·simp only [Act.put, qa, qb, qc, i64_w, i32_w]
                 rfl
                refine pure_ (i := 48) (N := some 110) (v := undef) (a' := ?_) #[true,true,true,true,true,true,true,true,true,true,true,true,true,true,true,true,true,true,true,true,true,true,true,true,true,true,true,true,true,true,true,true,true,true,true,true,true,true,true,true,true,true,true,true,true,true,true,true,true,false,false,false,false] rfl rfl (any_of HT_.out (by kernel_rfl)) (fun _ _ _ h => h) (Or.inr ⟨by rfl,rfl⟩) ?_ ?_
                rotate_left
                ·simp only [Act.put, qa, qb, qc, i64_w, i32_w]
                 rfl
                refine pure_ (i := 49) (N := some 111) (v := undef) (a' := ?_) #[true,true,true,true,true,true,true,true,true,true,true,true,true,true,true,true,true,true,true,true,true,true,true,true,true,true,true,true,true,true,true,true,true,true,true,true,true,true,true,true,true,true,true,true,true,true,true,true,true,true,false,false,false] rfl rfl (any_of HT_.out (by kernel_rfl)) (fun _ _ _ h => h) (Or.inr ⟨by rfl,rfl⟩) ?_ ?_
                rotate_left
                ·simp only [Act.put, qa, qb, qc, i64_w, i32_w]
                 rfl
                refine pure_ (i := 50) (N := some 112) (v := undef) (a' := ?_) #[true,true,true,true,true,true,true,true,true,true,true,true,true,true,true,true,true,true,true,true,true,true,true,true,true,true,true,true,true,true,true,true,true,true,true,true,true,true,true,true,true,true,true,true,true,true,true,true,true,true,true,false,false] rfl rfl (any_of HT_.out (by kernel_rfl)) (fun _ _ _ h => h) (Or.inr ⟨by rfl,rfl⟩) ?_ ?_
                rotate_left
                ·simp only [Act.put, qa, qb, qc, i64_w, i32_w]
                 rfl
                refine pure_ (i := 51) (N := some 113) (v := undef) (a' := ?_) #[true,true,true,true,true,true,true,true,true,true,true,true,true,true,true,true,true,true,true,true,true,true,true,true,true,true,true,true,true,true,true,true,true,true,true,true,true,true,true,true,true,true,true,true,true,true,true,true,true,true,true,true,false] rfl rfl (any_of HT_.out (by kernel_rfl)) (fun _ _ _ h => h) (Or.inr ⟨by rfl,rfl⟩) ?_ ?_
                rotate_left
                ·simp only [Act.put, qa, qb, qc, i64_w, i32_w]
                 rfl
                refine pure_ (i := 52) (N := some 114) (v := ?_) (a' := ?_) #[true,true,true,true,true,true,true,true,true,true,true,true,true,true,true,true,true,true,true,true,true,true,true,true,true,true,true,true,true,true,true,true,true,true,true,true,true,true,true,true,true,true,true,true,true,true,true,true,true,true,true,true,true] rfl rfl (any_of HT_.out (by kernel_rfl)) (fun _ _ _ h => h) (Or.inl ⟨by rfl,?_⟩) ?_ ?_
                rotate_left
                ·intro w'
                 go_simp
                 with_reducible rfl
                rotate_left
                ·simp only [Act.put, qa, qb, qc, i64_w, i32_w]
                 rfl
                refine done_ (done_of HT_.out (by kernel_rfl)) ?_
                try go_wp2
                go_meet
                case rel => exact ⟨_,(true),(by first|rfl|(simp;done)|(simp [*];done)),H',⟨by have := HJ11.out;have := HK2.out;first|omega|exact Nat.le_refl _⟩,⟨by (with_reducible repeat (first|apply Kd.R_alloc|apply Kd.R_drewN|apply Kd.R_drew));exact HO_8.out⟩,⟨by (with_reducible repeat (first|apply Kd.R_alloc|apply Kd.R_drewN|apply Kd.R_drew));exact HO_11.out⟩,⟨by (with_reducible repeat (first|refine blk_drewN ?_ _|refine blk_drew ?_|refine blk_alloc ?_ _));exact BK117.out⟩,⟨by repeat (first|(with_reducible first|exact HB.out|apply below_alloc|apply pw_below_drewN|apply below_drew1|refine below_set ?_ GE117.out)|exact HB.out)⟩⟩
               ·rw [if_neg c45] at H
                have c45b0 : (!(((rd_T33 t135 x13_2).f0) == a2_0) || (!(((rd_T33 t135 x13_2).f1) == a2_3) || (!(((rd_T33 t135 x13_2).f2) == a2_1)))) = false := by simpa using c45
                clear c45
                by_cases c47 : a2_3 < ((rd_T33 t119 x13_2).f1)
                ·rw [if_pos c47] at H
                 have c47b0 : decide (a2_3 < ((rd_T33 t119 x13_2).f1)) = true := decide_eq_true c47
                 clear c47
                 have H' := Aside0.mk H
                 clear H
                 try go_wp2
                 (try (rw [drewN_self w42];generalize hq_ : World.drewN w42 _ = w42;have n0_ : Aside0 (Kd.R k33 33 w42 w.heap.size (fun k_ => some k_ ≠ (.slice (some ad139) t119.length co41 : Value).ownBlock) (.slice (some ad140) t135.length co43) t135) := ⟨by rw [← hq_];exact (by (with_reducible repeat (first|apply Kd.R_alloc|apply Kd.R_drewN|apply Kd.R_drew));exact HO_11.out)⟩;have n1_ : Aside0 (Kd.R k33 33 w42 w.heap.size (fun k_ => some k_ ≠ (.slice (some ad140) t135.length co43 : Value).ownBlock) (.slice (some ad139) t119.length co41) t119) := ⟨by rw [← hq_];exact (by (with_reducible repeat (first|apply Kd.R_alloc|apply Kd.R_drewN|apply Kd.R_drew));exact HO_8.out)⟩;have n2_ : Aside0 (w42.heap[gb117]? = some (.cells #[.int .i64 a2_0,.int .i64 a2_1,.int .i64 a2_2,.int .i64 a2_3,.slice a2_4.a a2_4.n a2_4.c] 27 (0,0))) := ⟨by rw [← hq_];exact (by (with_reducible repeat (first|refine blk_drewN ?_ _|refine blk_drew ?_|refine blk_alloc ?_ _));exact BK117.out)⟩;have n3_ : Aside0 (Below w.heap.size w w42) := ⟨by rw [← hq_];exact (by repeat (first|(with_reducible first|exact HB.out|apply below_alloc|apply pw_below_drewN|apply below_drew1|refine below_set ?_ GE117.out)|exact HB.out))⟩;clear HO_11 HO_8 BK117 HB hq_;have HO_11 := n0_;have HO_8 := n1_;have BK117 := n2_;have HB := n3_;clear n0_ n1_ n2_ n3_))
                 have n0_ := Aside0.mk (Kd.R_drew HO_8.out)
                 have n1_ := Aside0.mk (Kd.R_drew HO_11.out)
                 have n2_ := Aside0.mk (blk_drew BK117.out)
                 have n3_ := Aside0.mk (below_drew1 HB.out)
                 clear HO_8
                 clear HO_11
                 clear BK117
                 clear HB
                 have HO_8 := n0_
                 have HO_11 := n1_
                 have BK117 := n2_
                 have HB := n3_
                 clear n0_ n1_ n2_ n3_
                 have p141 : 0 ≤ (x13_2 : Int) := of_decide_eq_true (by first|(with_reducible assumption)|assumption)
                 have q141 : x13_2 < (t135.length : Int) := of_decide_eq_true (by first|(with_reducible assumption)|assumption)
                 obtain ⟨ad141, e141, hx141_0, hx141_1, hx141_2⟩ := at_T33 (Kd.R_reads' HO_11.out).2.2 x13_2 p141 q141
                 obtain rfl : ad140 = ad141 := (by injection e141)
                 replace p141 := eq_true p141
                 replace q141 := eq_true q141
                 have p142 : 0 ≤ (x13_2 : Int) := of_decide_eq_true (by first|(with_reducible assumption)|assumption)
                 have q142 : x13_2 < (t119.length : Int) := of_decide_eq_true (by first|(with_reducible assumption)|assumption)
                 obtain ⟨ad142, e142, hx142_0, hx142_1, hx142_2⟩ := at_T33 (Kd.R_reads' HO_8.out).2.2 x13_2 p142 q142
                 obtain rfl : ad139 = ad142 := (by injection e142)
                 replace p142 := eq_true p142
                 replace q142 := eq_true q142
                 refine start_ (n := 53) (S := fun w' => w'.cell? ⟨gb117,0,none⟩ = some (.int .i64 a2_0) ∧ w'.cell? ⟨gb117,1,none⟩ = some (.int .i64 a2_1) ∧ w'.cell? ⟨gb117,2,none⟩ = some (.int .i64 a2_2) ∧ w'.cell? ⟨gb117,3,none⟩ = some (.int .i64 a2_3) ∧ w'.cell? ⟨gb117,4,none⟩ = some (.slice a2_4.a a2_4.n a2_4.c) ∧ w'.cell? (ad140.add ((x13_2).toNat * 3)) = some (.int .i64 ((rd_T33 t135 x13_2).f0)) ∧ w'.cell? ⟨(ad140.add ((x13_2).toNat * 3)).block,(ad140.add ((x13_2).toNat * 3)).off + 1,none⟩ = some (.int .i64 ((rd_T33 t135 x13_2).f1)) ∧ w'.cell? ⟨(ad140.add ((x13_2).toNat * 3)).block,(ad140.add ((x13_2).toNat * 3)).off + 2,none⟩ = some (.int .i64 ((rd_T33 t135 x13_2).f2)) ∧ w'.cell? (ad139.add ((x13_2).toNat * 3)) = some (.int .i64 ((rd_T33 t119 x13_2).f0)) ∧ w'.cell? ⟨(ad139.add ((x13_2).toNat * 3)).block,(ad139.add ((x13_2).toNat * 3)).off + 1,none⟩ = some (.int .i64 ((rd_T33 t119 x13_2).f1)) ∧ w'.cell? ⟨(ad139.add ((x13_2).toNat * 3)).block,(ad139.add ((x13_2).toNat * 3)).off + 2,none⟩ = some (.int .i64 ((rd_T33 t119 x13_2).f2))) (ds := []) #[false,false,false,false,false,false,false,false,false,false,false,false,false,false,false,false,false,false,false,false,false,false,false,false,false,false,false,false,false,false,false,false,false,false,false,false,false,false,false,false,false,false,false,false,false,false,false,false,false,false,false,false,false] (by kernel_rfl) rfl rfl ⟨(blk_cell BK117.out 0).trans rfl,(blk_cell BK117.out 1).trans rfl,(blk_cell BK117.out 2).trans rfl,(blk_cell BK117.out 3).trans rfl,(blk_cell BK117.out 4).trans rfl,hx141_0,hx141_1,hx141_2,hx142_0,hx142_1,hx142_2⟩ (fun hHeld => ?_);refine with_tabW strakelaw18_ReplayMore.tab13 strakelaw18_ReplayMore.bits13 (fun HT_ HW_ => ?_)
                 generalize w42.drew = w48 at HO_8 HO_11 BK117 HB hx141_0 hx141_1 hx141_2 hx142_0 hx142_1 hx142_2 hHeld ⊢
                 refine pure_ (i := 0) (N := some 62) (v := ?_) (a' := ?_) #[true,false,false,false,false,false,false,false,false,false,false,false,false,false,false,false,false,false,false,false,false,false,false,false,false,false,false,false,false,false,false,false,false,false,false,false,false,false,false,false,false,false,false,false,false,false,false,false,false,false,false,false,false] rfl rfl (any_of HT_.out (by kernel_rfl)) (fun _ _ _ h => h) (Or.inl ⟨by rfl,?_⟩) ?_ ?_
                 rotate_left
                 ·intro w'
                  go_simp
                  with_reducible rfl
                 rotate_left
                 ·simp only [Act.put, qa, qb, qc, i64_w, i32_w]
                  rfl
                 refine pure_ (i := 1) (N := some 63) (v := ?_) (a' := ?_) #[true,true,false,false,false,false,false,false,false,false,false,false,false,false,false,false,false,false,false,false,false,false,false,false,false,false,false,false,false,false,false,false,false,false,false,false,false,false,false,false,false,false,false,false,false,false,false,false,false,false,false,false,false] rfl rfl (any_of HT_.out (by kernel_rfl)) (fun _ _ _ h => h) (Or.inl ⟨by rfl,?_⟩) ?_ ?_
                 rotate_left
                 ·intro w'
                  go_simp
                  with_reducible rfl
                 rotate_left
                 ·simp only [Act.put, qa, qb, qc, i64_w, i32_w]
                  rfl
                 refine pure_ (i := 3) (N := some 65) (v := ?_) (a' := ?_) #[true,true,false,true,false,false,false,false,false,false,false,false,false,false,false,false,false,false,false,false,false,false,false,false,false,false,false,false,false,false,false,false,false,false,false,false,false,false,false,false,false,false,false,false,false,false,false,false,false,false,false,false,false] rfl rfl (any_of HT_.out (by kernel_rfl)) (fun _ _ _ h => h) (Or.inl ⟨by rfl,?_⟩) ?_ ?_
                 rotate_left
                 ·intro w'
                  go_simp
                  with_reducible rfl
                 rotate_left
                 ·simp only [Act.put, qa, qb, qc, i64_w, i32_w]
                  rfl
                 refine take_ (i := 2) (N := some 64) (v := ?_) (a' := ?_) #[true,true,true,true,false,false,false,false,false,false,false,false,false,false,false,false,false,false,false,false,false,false,false,false,false,false,false,false,false,false,false,false,false,false,false,false,false,false,false,false,false,false,false,false,false,false,false,false,false,false,false,false,false] rfl rfl (take_ofW HT_.out HW_.out (by kernel_rfl)) (fun _ _ _ h => h) (Or.inl ⟨by rfl,?_⟩) hHeld ?_ ?_
                 rotate_left
                 ·rintro w' ⟨s0, s1, s2, s3, s4, s5, s6, s7, s8, s9, s10⟩
                  go_simp
                  with_reducible rfl
                 rotate_left
                 ·simp only [Act.put, qa, qb, qc, i64_w, i32_w]
                  rfl
                 refine pure_ (i := 4) (N := some 66) (v := ?_) (a' := ?_) #[true,true,true,true,true,false,false,false,false,false,false,false,false,false,false,false,false,false,false,false,false,false,false,false,false,false,false,false,false,false,false,false,false,false,false,false,false,false,false,false,false,false,false,false,false,false,false,false,false,false,false,false,false] rfl rfl (any_of HT_.out (by kernel_rfl)) (fun _ _ _ h => h) (Or.inl ⟨by rfl,?_⟩) ?_ ?_
                 rotate_left
                 ·intro w'
                  go_simp
                  with_reducible rfl
                 rotate_left
                 ·simp only [Act.put, qa, qb, qc, i64_w, i32_w]
                  rfl
                 refine pure_ (i := 5) (N := some 67) (v := ?_) (a' := ?_) #[true,true,true,true,true,true,false,false,false,false,false,false,false,false,false,false,false,false,false,false,false,false,false,false,false,false,false,false,false,false,false,false,false,false,false,false,false,false,false,false,false,false,false,false,false,false,false,false,false,false,false,false,false] rfl rfl (any_of HT_.out (by kernel_rfl)) (fun _ _ _ h => h) (Or.inl ⟨by rfl,?_⟩) ?_ ?_
                 rotate_left
                 ·intro w'
                  go_simp
                  with_reducible rfl
                 rotate_left
                 ·simp only [Act.put, qa, qb, qc, i64_w, i32_w]
                  rfl
                 refine pure_ (i := 6) (N := some 68) (v := ?_) (a' := ?_) #[true,true,true,true,true,true,true,false,false,false,false,false,false,false,false,false,false,false,false,false,false,false,false,false,false,false,false,false,false,false,false,false,false,false,false,false,false,false,false,false,false,false,false,false,false,false,false,false,false,false,false,false,false] rfl rfl (any_of HT_.out (by kernel_rfl)) (fun _ _ _ h => h) (Or.inl ⟨by rfl,?_⟩) ?_ ?_
                 rotate_left
                 ·intro w'
                  go_simp
                  with_reducible rfl
                 rotate_left
                 ·simp only [Act.put, qa, qb, qc, i64_w, i32_w]
                  rfl
                 refine pure_ (i := 7) (N := some 69) (v := ?_) (a' := ?_) #[true,true,true,true,true,true,true,true,false,false,false,false,false,false,false,false,false,false,false,false,false,false,false,false,false,false,false,false,false,false,false,false,false,false,false,false,false,false,false,false,false,false,false,false,false,false,false,false,false,false,false,false,false] rfl rfl (any_of HT_.out (by kernel_rfl)) (fun _ _ _ h => h) (Or.inl ⟨by rfl,?_⟩) ?_ ?_
                 rotate_left
                 ·intro w'
                  go_simp
                  with_reducible rfl
                 rotate_left
                 ·simp only [Act.put, qa, qb, qc, i64_w, i32_w]
                  rfl
                 refine pure_ (i := 8) (N := some 70) (v := ?_) (a' := ?_) #[true,true,true,true,true,true,true,true,true,false,false,false,false,false,false,false,false,false,false,false,false,false,false,false,false,false,false,false,false,false,false,false,false,false,false,false,false,false,false,false,false,false,false,false,false,false,false,false,false,false,false,false,false] rfl rfl (any_of HT_.out (by kernel_rfl)) (fun _ _ _ h => h) (Or.inl ⟨by rfl,?_⟩) ?_ ?_
                 rotate_left
                 ·intro w'
                  go_simp
                  with_reducible rfl
                 rotate_left
                 ·simp only [Act.put, qa, qb, qc, i64_w, i32_w]
                  rfl
                 refine pure_ (i := 10) (N := some 72) (v := ?_) (a' := ?_) #[true,true,true,true,true,true,true,true,true,false,true,false,false,false,false,false,false,false,false,false,false,false,false,false,false,false,false,false,false,false,false,false,false,false,false,false,false,false,false,false,false,false,false,false,false,false,false,false,false,false,false,false,false] rfl rfl (any_of HT_.out (by kernel_rfl)) (fun _ _ _ h => h) (Or.inl ⟨by rfl,?_⟩) ?_ ?_
                 rotate_left
                 ·intro w'
                  go_simp
                  with_reducible rfl
                 rotate_left
                 ·simp only [Act.put, qa, qb, qc, i64_w, i32_w]
                  rfl
                 refine pure_ (i := 12) (N := some 74) (v := ?_) (a' := ?_) #[true,true,true,true,true,true,true,true,true,false,true,false,true,false,false,false,false,false,false,false,false,false,false,false,false,false,false,false,false,false,false,false,false,false,false,false,false,false,false,false,false,false,false,false,false,false,false,false,false,false,false,false,false] rfl rfl (any_of HT_.out (by kernel_rfl)) (fun _ _ _ h => h) (Or.inl ⟨by rfl,?_⟩) ?_ ?_
                 rotate_left
                 ·intro w'
                  go_simp
                  with_reducible rfl
                 rotate_left
                 ·simp only [Act.put, qa, qb, qc, i64_w, i32_w]
                  rfl
                 refine pure_ (i := 13) (N := some 75) (v := ?_) (a' := ?_) #[true,true,true,true,true,true,true,true,true,false,true,false,true,true,false,false,false,false,false,false,false,false,false,false,false,false,false,false,false,false,false,false,false,false,false,false,false,false,false,false,false,false,false,false,false,false,false,false,false,false,false,false,false] rfl rfl (any_of HT_.out (by kernel_rfl)) (fun _ _ _ h => h) (Or.inl ⟨by rfl,?_⟩) ?_ ?_
                 rotate_left
                 ·intro w'
                  go_simp
                  with_reducible rfl
                 rotate_left
                 ·simp only [Act.put, qa, qb, qc, i64_w, i32_w]
                  rfl
                 refine pure_ (i := 15) (N := some 77) (v := ?_) (a' := ?_) #[true,true,true,true,true,true,true,true,true,false,true,false,true,true,false,true,false,false,false,false,false,false,false,false,false,false,false,false,false,false,false,false,false,false,false,false,false,false,false,false,false,false,false,false,false,false,false,false,false,false,false,false,false] rfl rfl (any_of HT_.out (by kernel_rfl)) (fun _ _ _ h => h) (Or.inl ⟨by rfl,?_⟩) ?_ ?_
                 rotate_left
                 ·intro w'
                  go_simp
                  with_reducible rfl
                 rotate_left
                 ·simp only [Act.put, qa, qb, qc, i64_w, i32_w]
                  rfl
                 refine pure_ (i := 16) (N := some 78) (v := ?_) (a' := ?_) #[true,true,true,true,true,true,true,true,true,false,true,false,true,true,false,true,true,false,false,false,false,false,false,false,false,false,false,false,false,false,false,false,false,false,false,false,false,false,false,false,false,false,false,false,false,false,false,false,false,false,false,false,false] rfl rfl (any_of HT_.out (by kernel_rfl)) (fun _ _ _ h => h) (Or.inl ⟨by rfl,?_⟩) ?_ ?_
                 rotate_left
                 ·intro w'
                  go_simp
                  with_reducible rfl
                 rotate_left
                 ·simp only [Act.put, qa, qb, qc, i64_w, i32_w]
                  rfl
                 refine take_ (i := 9) (N := some 71) (v := ?_) (a' := ?_) #[true,true,true,true,true,true,true,true,true,true,true,false,true,true,false,true,true,false,false,false,false,false,false,false,false,false,false,false,false,false,false,false,false,false,false,false,false,false,false,false,false,false,false,false,false,false,false,false,false,false,false,false,false] rfl rfl (take_ofW HT_.out HW_.out (by kernel_rfl)) (fun _ _ _ h => h) (Or.inl ⟨by rfl,?_⟩) hHeld ?_ ?_
                 rotate_left
                 ·rintro w' ⟨s0, s1, s2, s3, s4, s5, s6, s7, s8, s9, s10⟩
                  go_simp
                  with_reducible rfl
                 rotate_left
                 ·simp only [Act.put, qa, qb, qc, i64_w, i32_w]
                  rfl
                 refine take_ (i := 11) (N := some 73) (v := ?_) (a' := ?_) #[true,true,true,true,true,true,true,true,true,true,true,true,true,true,false,true,true,false,false,false,false,false,false,false,false,false,false,false,false,false,false,false,false,false,false,false,false,false,false,false,false,false,false,false,false,false,false,false,false,false,false,false,false] rfl rfl (take_ofW HT_.out HW_.out (by kernel_rfl)) (fun _ _ _ h => h) (Or.inl ⟨by rfl,?_⟩) hHeld ?_ ?_
                 rotate_left
                 ·rintro w' ⟨s0, s1, s2, s3, s4, s5, s6, s7, s8, s9, s10⟩
                  go_simp
                  with_reducible rfl
                 rotate_left
                 ·simp only [Act.put, qa, qb, qc, i64_w, i32_w]
                  rfl
                 refine take_ (i := 14) (N := some 76) (v := ?_) (a' := ?_) #[true,true,true,true,true,true,true,true,true,true,true,true,true,true,true,true,true,false,false,false,false,false,false,false,false,false,false,false,false,false,false,false,false,false,false,false,false,false,false,false,false,false,false,false,false,false,false,false,false,false,false,false,false] rfl rfl (take_ofW HT_.out HW_.out (by kernel_rfl)) (fun _ _ _ h => h) (Or.inl ⟨by rfl,?_⟩) hHeld ?_ ?_
                 rotate_left
                 ·rintro w' ⟨s0, s1, s2, s3, s4, s5, s6, s7, s8, s9, s10⟩
                  go_simp
                  with_reducible rfl
                 rotate_left
                 ·simp only [Act.put, qa, qb, qc, i64_w, i32_w]
                  rfl
                 refine take_ (i := 17) (N := some 79) (v := ?_) (a' := ?_) #[true,true,true,true,true,true,true,true,true,true,true,true,true,true,true,true,true,true,false,false,false,false,false,false,false,false,false,false,false,false,false,false,false,false,false,false,false,false,false,false,false,false,false,false,false,false,false,false,false,false,false,false,false] rfl rfl (take_ofW HT_.out HW_.out (by kernel_rfl)) (fun _ _ _ h => h) (Or.inl ⟨by rfl,?_⟩) hHeld ?_ ?_
                 rotate_left
                 ·rintro w' ⟨s0, s1, s2, s3, s4, s5, s6, s7, s8, s9, s10⟩
                  go_simp
                  with_reducible rfl
                 rotate_left
                 ·simp only [Act.put, qa, qb, qc, i64_w, i32_w]
                  rfl
                 refine pure_ (i := 18) (N := some 80) (v := ?_) (a' := ?_) #[true,true,true,true,true,true,true,true,true,true,true,true,true,true,true,true,true,true,true,false,false,false,false,false,false,false,false,false,false,false,false,false,false,false,false,false,false,false,false,false,false,false,false,false,false,false,false,false,false,false,false,false,false] rfl rfl (any_of HT_.out (by kernel_rfl)) (fun _ _ _ h => h) (Or.inl ⟨by rfl,?_⟩) ?_ ?_
                 rotate_left
                 ·intro w'
                  go_simp
                  with_reducible rfl
                 rotate_left
                 ·simp only [Act.put, qa, qb, qc, i64_w, i32_w]
                  rfl
                 refine pure_ (i := 19) (N := some 81) (v := ?_) (a' := ?_) #[true,true,true,true,true,true,true,true,true,true,true,true,true,true,true,true,true,true,true,true,false,false,false,false,false,false,false,false,false,false,false,false,false,false,false,false,false,false,false,false,false,false,false,false,false,false,false,false,false,false,false,false,false] rfl rfl (any_of HT_.out (by kernel_rfl)) (fun _ _ _ h => h) (Or.inl ⟨by rfl,?_⟩) ?_ ?_
                 rotate_left
                 ·intro w'
                  go_simp
                  with_reducible rfl
                 rotate_left
                 ·simp only [Act.put, qa, qb, qc, i64_w, i32_w]
                  rfl
                 refine pure_ (i := 20) (N := some 82) (v := ?_) (a' := ?_) #[true,true,true,true,true,true,true,true,true,true,true,true,true,true,true,true,true,true,true,true,true,false,false,false,false,false,false,false,false,false,false,false,false,false,false,false,false,false,false,false,false,false,false,false,false,false,false,false,false,false,false,false,false] rfl rfl (any_of HT_.out (by kernel_rfl)) (fun _ _ _ h => h) (Or.inl ⟨by rfl,?_⟩) ?_ ?_
                 rotate_left
                 ·intro w'
                  go_simp
                  with_reducible rfl
                 rotate_left
                 ·simp only [Act.put, qa, qb, qc, i64_w, i32_w]
                  rfl
                 refine pure_ (i := 21) (N := some 83) (v := ?_) (a' := ?_) #[true,true,true,true,true,true,true,true,true,true,true,true,true,true,true,true,true,true,true,true,true,true,false,false,false,false,false,false,false,false,false,false,false,false,false,false,false,false,false,false,false,false,false,false,false,false,false,false,false,false,false,false,false] rfl rfl (any_of HT_.out (by kernel_rfl)) (fun _ _ _ h => h) (Or.inl ⟨by rfl,?_⟩) ?_ ?_
                 rotate_left
                 ·intro w'
                  go_simp
                  with_reducible rfl
                 rotate_left
                 ·simp only [Act.put, qa, qb, qc, i64_w, i32_w]
                  rfl
                 refine pure_ (i := 22) (N := some 84) (v := ?_) (a' := ?_) #[true,true,true,true,true,true,true,true,true,true,true,true,true,true,true,true,true,true,true,true,true,true,true,false,false,false,false,false,false,false,false,false,false,false,false,false,false,false,false,false,false,false,false,false,false,false,false,false,false,false,false,false,false] rfl rfl (any_of HT_.out (by kernel_rfl)) (fun _ _ _ h => h) (Or.inl ⟨by rfl,?_⟩) ?_ ?_
                 rotate_left
                 ·intro w'
                  go_simp
                  with_reducible rfl
                 rotate_left
                 ·simp only [Act.put, qa, qb, qc, i64_w, i32_w]
                  rfl
                 refine pure_ (i := 23) (N := some 85) (v := ?_) (a' := ?_) #[true,true,true,true,true,true,true,true,true,true,true,true,true,true,true,true,true,true,true,true,true,true,true,true,false,false,false,false,false,false,false,false,false,false,false,false,false,false,false,false,false,false,false,false,false,false,false,false,false,false,false,false,false] rfl rfl (any_of HT_.out (by kernel_rfl)) (fun _ _ _ h => h) (Or.inl ⟨by rfl,?_⟩) ?_ ?_
                 rotate_left
                 ·intro w'
                  go_simp
                  with_reducible rfl
                 rotate_left
                 ·simp only [Act.put, qa, qb, qc, i64_w, i32_w]
                  rfl
                 refine pure_ (i := 25) (N := some 87) (v := ?_) (a' := ?_) #[true,true,true,true,true,true,true,true,true,true,true,true,true,true,true,true,true,true,true,true,true,true,true,true,false,true,false,false,false,false,false,false,false,false,false,false,false,false,false,false,false,false,false,false,false,false,false,false,false,false,false,false,false] rfl rfl (any_of HT_.out (by kernel_rfl)) (fun _ _ _ h => h) (Or.inl ⟨by rfl,?_⟩) ?_ ?_
                 rotate_left
                 ·intro w'
                  go_simp
                  with_reducible rfl
                 rotate_left
                 ·simp only [Act.put, qa, qb, qc, i64_w, i32_w]
                  rfl
                 refine pure_ (i := 26) (N := some 88) (v := ?_) (a' := ?_) #[true,true,true,true,true,true,true,true,true,true,true,true,true,true,true,true,true,true,true,true,true,true,true,true,false,true,true,false,false,false,false,false,false,false,false,false,false,false,false,false,false,false,false,false,false,false,false,false,false,false,false,false,false] rfl rfl (any_of HT_.out (by kernel_rfl)) (fun _ _ _ h => h) (Or.inl ⟨by rfl,?_⟩) ?_ ?_
                 rotate_left
                 ·intro w'
                  go_simp
                  with_reducible rfl
                 rotate_left
                 ·simp only [Act.put, qa, qb, qc, i64_w, i32_w]
                  rfl
                 refine pure_ (i := 27) (N := some 89) (v := ?_) (a' := ?_) #[true,true,true,true,true,true,true,true,true,true,true,true,true,true,true,true,true,true,true,true,true,true,true,true,false,true,true,true,false,false,false,false,false,false,false,false,false,false,false,false,false,false,false,false,false,false,false,false,false,false,false,false,false] rfl rfl (any_of HT_.out (by kernel_rfl)) (fun _ _ _ h => h) (Or.inl ⟨by rfl,?_⟩) ?_ ?_
                 rotate_left
                 ·intro w'
                  go_simp
                  with_reducible rfl
                 rotate_left
                 ·simp only [Act.put, qa, qb, qc, i64_w, i32_w]
                  rfl
                 refine pure_ (i := 28) (N := some 90) (v := ?_) (a' := ?_) #[true,true,true,true,true,true,true,true,true,true,true,true,true,true,true,true,true,true,true,true,true,true,true,true,false,true,true,true,true,false,false,false,false,false,false,false,false,false,false,false,false,false,false,false,false,false,false,false,false,false,false,false,false] rfl rfl (any_of HT_.out (by kernel_rfl)) (fun _ _ _ h => h) (Or.inl ⟨by rfl,?_⟩) ?_ ?_
                 rotate_left
                 ·intro w'
                  go_simp
                  with_reducible rfl
                 rotate_left
                 ·simp only [Act.put, qa, qb, qc, i64_w, i32_w]
                  rfl
                 refine take_ (i := 24) (N := some 86) (v := ?_) (a' := ?_) #[true,true,true,true,true,true,true,true,true,true,true,true,true,true,true,true,true,true,true,true,true,true,true,true,true,true,true,true,true,false,false,false,false,false,false,false,false,false,false,false,false,false,false,false,false,false,false,false,false,false,false,false,false] rfl rfl (take_ofW HT_.out HW_.out (by kernel_rfl)) (fun _ _ _ h => h) (Or.inl ⟨by rfl,?_⟩) hHeld ?_ ?_
                 rotate_left
                 ·rintro w' ⟨s0, s1, s2, s3, s4, s5, s6, s7, s8, s9, s10⟩
                  go_simp
                  with_reducible rfl
                 rotate_left
                 ·simp only [Act.put, qa, qb, qc, i64_w, i32_w]
                  rfl
                 refine take_ (i := 29) (N := some 91) (v := ?_) (a' := ?_) #[true,true,true,true,true,true,true,true,true,true,true,true,true,true,true,true,true,true,true,true,true,true,true,true,true,true,true,true,true,true,false,false,false,false,false,false,false,false,false,false,false,false,false,false,false,false,false,false,false,false,false,false,false] rfl rfl (take_ofW HT_.out HW_.out (by kernel_rfl)) (fun _ _ _ h => h) (Or.inl ⟨by rfl,?_⟩) hHeld ?_ ?_
                 rotate_left
                 ·rintro w' ⟨s0, s1, s2, s3, s4, s5, s6, s7, s8, s9, s10⟩
                  go_simp
                  with_reducible rfl
                 rotate_left
                 ·simp only [Act.put, qa, qb, qc, i64_w, i32_w]
                  rfl
                 refine pure_ (i := 30) (N := some 92) (v := ?_) (a' := ?_) #[true,true,true,true,true,true,true,true,true,true,true,true,true,true,true,true,true,true,true,true,true,true,true,true,true,true,true,true,true,true,true,false,false,false,false,false,false,false,false,false,false,false,false,false,false,false,false,false,false,false,false,false,false] rfl rfl (any_of HT_.out (by kernel_rfl)) (fun _ _ _ h => h) (Or.inl ⟨by rfl,?_⟩) ?_ ?_
                 rotate_left
                 ·intro w'
                  go_simp
                  with_reducible rfl
                 rotate_left
                 ·simp only [Act.put, qa, qb, qc, i64_w, i32_w]
                  rfl
                 refine pure_ (i := 31) (N := some 93) (v := ?_) (a' := ?_) #[true,true,true,true,true,true,true,true,true,true,true,true,true,true,true,true,true,true,true,true,true,true,true,true,true,true,true,true,true,true,true,true,false,false,false,false,false,false,false,false,false,false,false,false,false,false,false,false,false,false,false,false,false] rfl rfl (any_of HT_.out (by kernel_rfl)) (fun _ _ _ h => h) (Or.inl ⟨by rfl,?_⟩) ?_ ?_
                 rotate_left
                 ·intro w'
                  go_simp
                  with_reducible rfl
                 rotate_left
                 ·simp only [Act.put, qa, qb, qc, i64_w, i32_w]
                  rfl
                 refine pure_ (i := 32) (N := some 94) (v := ?_) (a' := ?_) #[true,true,true,true,true,true,true,true,true,true,true,true,true,true,true,true,true,true,true,true,true,true,true,true,true,true,true,true,true,true,true,true,true,false,false,false,false,false,false,false,false,false,false,false,false,false,false,false,false,false,false,false,false] rfl rfl (any_of HT_.out (by kernel_rfl)) (fun _ _ _ h => h) (Or.inl ⟨by rfl,?_⟩) ?_ ?_
                 rotate_left
                 ·intro w'
                  go_simp
                  with_reducible rfl
                 rotate_left
                 ·simp only [Act.put, qa, qb, qc, i64_w, i32_w]
                  rfl
                 refine pure_ (i := 33) (N := some 95) (v := undef) (a' := ?_) #[true,true,true,true,true,true,true,true,true,true,true,true,true,true,true,true,true,true,true,true,true,true,true,true,true,true,true,true,true,true,true,true,true,true,false,false,false,false,false,false,false,false,false,false,false,false,false,false,false,false,false,false,false] rfl rfl (any_of HT_.out (by kernel_rfl)) (fun _ _ _ h => h) (Or.inr ⟨by rfl,rfl⟩) ?_ ?_
                 rotate_left
                 ·simp only [Act.put, qa, qb, qc, i64_w, i32_w]
                  rfl
                 refine pure_ (i := 34) (N := some 96) (v := undef) (a' := ?_) #[true,true,true,true,true,true,true,true,true,true,true,true,true,true,true,true,true,true,true,true,true,true,true,true,true,true,true,true,true,true,true,true,true,true,true,false,false,false,false,false,false,false,false,false,false,false,false,false,false,false,false,false,false] rfl rfl (any_of HT_.out (by kernel_rfl)) (fun _ _ _ h => h) (Or.inr ⟨by rfl,rfl⟩) ?_ ?_
                 rotate_left
                 ·simp only [Act.put, qa, qb, qc, i64_w, i32_w]
                  rfl
                 refine pure_ (i := 35) (N := some 97) (v := undef) (a' := ?_) #[true,true,true,true,true,true,true,true,true,true,true,true,true,true,true,true,true,true,true,true,true,true,true,true,true,true,true,true,true,true,true,true,true,true,true,true,false,false,false,false,false,false,false,false,false,false,false,false,false,false,false,false,false] rfl rfl (any_of HT_.out (by kernel_rfl)) (fun _ _ _ h => h) (Or.inr ⟨by rfl,rfl⟩) ?_ ?_
                 rotate_left
                 ·simp only [Act.put, qa, qb, qc, i64_w, i32_w]
                  rfl
                 refine pure_ (i := 36) (N := some 98) (v := undef) (a' := ?_) #[true,true,true,true,true,true,true,true,true,true,true,true,true,true,true,true,true,true,true,true,true,true,true,true,true,true,true,true,true,true,true,true,true,true,true,true,true,false,false,false,false,false,false,false,false,false,false,false,false,false,false,false,false] rfl rfl (any_of HT_.out (by kernel_rfl)) (fun _ _ _ h => h) (Or.inr ⟨by rfl,rfl⟩) ?_ ?_
                 rotate_left
                 ·simp only [Act.put, qa, qb, qc, i64_w, i32_w]
                  rfl
                 refine pure_ (i := 37) (N := some 99) (v := undef) (a' := ?_) #[true,true,true,true,true,true,true,true,true,true,true,true,true,true,true,true,true,true,true,true,true,true,true,true,true,true,true,true,true,true,true,true,true,true,true,true,true,true,false,false,false,false,false,false,false,false,false,false,false,false,false,false,false] rfl rfl (any_of HT_.out (by kernel_rfl)) (fun _ _ _ h => h) (Or.inr ⟨by rfl,rfl⟩) ?_ ?_
                 rotate_left
                 ·simp only [Act.put, qa, qb, qc, i64_w, i32_w]
                  rfl
                 refine pure_ (i := 38) (N := some 100) (v := undef) (a' := ?_) #[true,true,true,true,true,true,true,true,true,true,true,true,true,true,true,true,true,true,true,true,true,true,true,true,true,true,true,true,true,true,true,true,true,true,true,true,true,true,true,false,false,false,false,false,false,false,false,false,false,false,false,false,false] rfl rfl (any_of HT_.out (by kernel_rfl)) (fun _ _ _ h => h) (Or.inr ⟨by rfl,rfl⟩) ?_ ?_
                 rotate_left
                 ·simp only [Act.put, qa, qb, qc, i64_w, i32_w]
                  rfl
                 refine pure_ (i := 39) (N := some 101) (v := undef) (a' := ?_) #[true,true,true,true,true,true,true,true,true,true,true,true,true,true,true,true,true,true,true,true,true,true,true,true,true,true,true,true,true,true,true,true,true,true,true,true,true,true,true,true,false,false,false,false,false,false,false,false,false,false,false,false,false] rfl rfl (any_of HT_.out (by kernel_rfl)) (fun _ _ _ h => h) (Or.inr ⟨by rfl,rfl⟩) ?_ ?_
                 rotate_left
                 ·simp only [Act.put, qa, qb, qc, i64_w, i32_w]
                  rfl
                 refine pure_ (i := 40) (N := some 102) (v := undef) (a' := ?_) #[true,true,true,true,true,true,true,true,true,true,true,true,true,true,true,true,true,true,true,true,true,true,true,true,true,true,true,true,true,true,true,true,true,true,true,true,true,true,true,true,true,false,false,false,false,false,false,false,false,false,false,false,false] rfl rfl (any_of HT_.out (by kernel_rfl)) (fun _ _ _ h => h) (Or.inr ⟨by rfl,rfl⟩) ?_ ?_
                 rotate_left
                 ·simp only [Act.put, qa, qb, qc, i64_w, i32_w]
                  rfl
                 refine pure_ (i := 41) (N := some 103) (v := undef) (a' := ?_) #[true,true,true,true,true,true,true,true,true,true,true,true,true,true,true,true,true,true,true,true,true,true,true,true,true,true,true,true,true,true,true,true,true,true,true,true,true,true,true,true,true,true,false,false,false,false,false,false,false,false,false,false,false] rfl rfl (any_of HT_.out (by kernel_rfl)) (fun _ _ _ h => h) (Or.inr ⟨by rfl,rfl⟩) ?_ ?_
                 rotate_left
                 ·simp only [Act.put, qa, qb, qc, i64_w, i32_w]
                  rfl
                 refine pure_ (i := 42) (N := some 104) (v := undef) (a' := ?_) #[true,true,true,true,true,true,true,true,true,true,true,true,true,true,true,true,true,true,true,true,true,true,true,true,true,true,true,true,true,true,true,true,true,true,true,true,true,true,true,true,true,true,true,false,false,false,false,false,false,false,false,false,false] rfl rfl (any_of HT_.out (by kernel_rfl)) (fun _ _ _ h => h) (Or.inr ⟨by rfl,rfl⟩) ?_ ?_
                 rotate_left
                 ·simp only [Act.put, qa, qb, qc, i64_w, i32_w]
                  rfl
                 refine pure_ (i := 43) (N := some 105) (v := undef) (a' := ?_) #[true,true,true,true,true,true,true,true,true,true,true,true,true,true,true,true,true,true,true,true,true,true,true,true,true,true,true,true,true,true,true,true,true,true,true,true,true,true,true,true,true,true,true,true,false,false,false,false,false,false,false,false,false] rfl rfl (any_of HT_.out (by kernel_rfl)) (fun _ _ _ h => h) (Or.inr ⟨by rfl,rfl⟩) ?_ ?_
                 rotate_left
                 ·simp only [Act.put, qa, qb, qc, i64_w, i32_w]
                  rfl
                 refine pure_ (i := 44) (N := some 106) (v := undef) (a' := ?_) #[true,true,true,true,true,true,true,true,true,true,true,true,true,true,true,true,true,true,true,true,true,true,true,true,true,true,true,true,true,true,true,true,true,true,true,true,true,true,true,true,true,true,true,true,true,false,false,false,false,false,false,false,false] rfl rfl (any_of HT_.out (by kernel_rfl)) (fun _ _ _ h => h) (Or.inr ⟨by rfl,rfl⟩) ?_ ?_
                 rotate_left
                 ·simp only [Act.put, qa, qb, qc, i64_w, i32_w]
                  rfl
                 refine pure_ (i := 45) (N := some 107) (v := undef) (a' := ?_) #[true,true,true,true,true,true,true,true,true,true,true,true,true,true,true,true,true,true,true,true,true,true,true,true,true,true,true,true,true,true,true,true,true,true,true,true,true,true,true,true,true,true,true,true,true,true,false,false,false,false,false,false,false] rfl rfl (any_of HT_.out (by kernel_rfl)) (fun _ _ _ h => h) (Or.inr ⟨by rfl,rfl⟩) ?_ ?_
                 rotate_left
                 ·simp only [Act.put, qa, qb, qc, i64_w, i32_w]
                  rfl
                 refine pure_ (i := 46) (N := some 108) (v := undef) (a' := ?_) #[true,true,true,true,true,true,true,true,true,true,true,true,true,true,true,true,true,true,true,true,true,true,true,true,true,true,true,true,true,true,true,true,true,true,true,true,true,true,true,true,true,true,true,true,true,true,true,false,false,false,false,false,false] rfl rfl (any_of HT_.out (by kernel_rfl)) (fun _ _ _ h => h) (Or.inr ⟨by rfl,rfl⟩) ?_ ?_
                 rotate_left
                 ·simp only [Act.put, qa, qb, qc, i64_w, i32_w]
                  rfl
                 refine pure_ (i := 47) (N := some 109) (v := undef) (a' := ?_) #[true,true,true,true,true,true,true,true,true,true,true,true,true,true,true,true,true,true,true,true,true,true,true,true,true,true,true,true,true,true,true,true,true,true,true,true,true,true,true,true,true,true,true,true,true,true,true,true,false,false,false,false,false] rfl rfl (any_of HT_.out (by kernel_rfl)) (fun _ _ _ h => h) (Or.inr ⟨by rfl,rfl⟩) ?_ ?_
                 rotate_left
                 ·simp only [Act.put, qa, qb, qc, i64_w, i32_w]
                  rfl
                 refine pure_ (i := 48) (N := some 110) (v := undef) (a' := ?_) #[true,true,true,true,true,true,true,true,true,true,true,true,true,true,true,true,true,true,true,true,true,true,true,true,true,true,true,true,true,true,true,true,true,true,true,true,true,true,true,true,true,true,true,true,true,true,true,true,true,false,false,false,false] rfl rfl (any_of HT_.out (by kernel_rfl)) (fun _ _ _ h => h) (Or.inr ⟨by rfl,rfl⟩) ?_ ?_
                 rotate_left
                 ·simp only [Act.put, qa, qb, qc, i64_w, i32_w]
                  rfl
                 refine pure_ (i := 49) (N := some 111) (v := undef) (a' := ?_) #[true,true,true,true,true,true,true,true,true,true,true,true,true,true,true,true,true,true,true,true,true,true,true,true,true,true,true,true,true,true,true,true,true,true,true,true,true,true,true,true,true,true,true,true,true,true,true,true,true,true,false,false,false] rfl rfl (any_of HT_.out (by kernel_rfl)) (fun _ _ _ h => h) (Or.inr ⟨by rfl,rfl⟩) ?_ ?_
                 rotate_left
                 ·simp only [Act.put, qa, qb, qc, i64_w, i32_w]
                  rfl
                 refine pure_ (i := 50) (N := some 112) (v := undef) (a' := ?_) #[true,true,true,true,true,true,true,true,true,true,true,true,true,true,true,true,true,true,true,true,true,true,true,true,true,true,true,true,true,true,true,true,true,true,true,true,true,true,true,true,true,true,true,true,true,true,true,true,true,true,true,false,false] rfl rfl (any_of HT_.out (by kernel_rfl)) (fun _ _ _ h => h) (Or.inr ⟨by rfl,rfl⟩) ?_ ?_
                 rotate_left
                 ·simp only [Act.put, qa, qb, qc, i64_w, i32_w]
                  rfl
                 refine pure_ (i := 51) (N := some 113) (v := undef) (a' := ?_) #[true,true,true,true,true,true,true,true,true,true,true,true,true,true,true,true,true,true,true,true,true,true,true,true,true,true,true,true,true,true,true,true,true,true,true,true,true,true,true,true,true,true,true,true,true,true,true,true,true,true,true,true,false] rfl rfl (any_of HT_.out (by kernel_rfl)) (fun _ _ _ h => h) (Or.inr ⟨by rfl,rfl⟩) ?_ ?_
                 rotate_left
                 ·simp only [Act.put, qa, qb, qc, i64_w, i32_w]
                  rfl
                 refine pure_ (i := 52) (N := some 114) (v := ?_) (a' := ?_) #[true,true,true,true,true,true,true,true,true,true,true,true,true,true,true,true,true,true,true,true,true,true,true,true,true,true,true,true,true,true,true,true,true,true,true,true,true,true,true,true,true,true,true,true,true,true,true,true,true,true,true,true,true] rfl rfl (any_of HT_.out (by kernel_rfl)) (fun _ _ _ h => h) (Or.inl ⟨by rfl,?_⟩) ?_ ?_
                 rotate_left
                 ·intro w'
                  go_simp
                  with_reducible rfl
                 rotate_left
                 ·simp only [Act.put, qa, qb, qc, i64_w, i32_w]
                  rfl
                 refine done_ (done_of HT_.out (by kernel_rfl)) ?_
                 try go_wp2
                 go_meet
                 case rel => exact ⟨_,(true),(by first|rfl|(simp;done)|(simp [*];done)),H',⟨by have := HJ11.out;have := HK2.out;first|omega|exact Nat.le_refl _⟩,⟨by (with_reducible repeat (first|apply Kd.R_alloc|apply Kd.R_drewN|apply Kd.R_drew));exact HO_8.out⟩,⟨by (with_reducible repeat (first|apply Kd.R_alloc|apply Kd.R_drewN|apply Kd.R_drew));exact HO_11.out⟩,⟨by (with_reducible repeat (first|refine blk_drewN ?_ _|refine blk_drew ?_|refine blk_alloc ?_ _));exact BK117.out⟩,⟨by repeat (first|(with_reducible first|exact HB.out|apply below_alloc|apply pw_below_drewN|apply below_drew1|refine below_set ?_ GE117.out)|exact HB.out)⟩⟩
                ·rw [if_neg c47] at H
                 have c47b0 : decide (a2_3 < ((rd_T33 t119 x13_2).f1)) = false := decide_eq_false c47
                 clear c47
                 by_cases c49 : a2_3 = ((rd_T33 t119 x13_2).f1)
                 ·rw [if_pos c49] at H
                  have c49b0 : (a2_3 == ((rd_T33 t119 x13_2).f1)) = true := beq_iff_eq.mpr c49
                  have c49b1 : (a2_3 != ((rd_T33 t119 x13_2).f1)) = false := bne_eq_false_iff_eq.mpr c49
                  clear c49
                  have H' := Aside0.mk H
                  clear H
                  try go_wp2
                  (try (rw [drewN_self w42];generalize hq_ : World.drewN w42 _ = w42;have n0_ : Aside0 (Kd.R k33 33 w42 w.heap.size (fun k_ => some k_ ≠ (.slice (some ad139) t119.length co41 : Value).ownBlock) (.slice (some ad140) t135.length co43) t135) := ⟨by rw [← hq_];exact (by (with_reducible repeat (first|apply Kd.R_alloc|apply Kd.R_drewN|apply Kd.R_drew));exact HO_11.out)⟩;have n1_ : Aside0 (Kd.R k33 33 w42 w.heap.size (fun k_ => some k_ ≠ (.slice (some ad140) t135.length co43 : Value).ownBlock) (.slice (some ad139) t119.length co41) t119) := ⟨by rw [← hq_];exact (by (with_reducible repeat (first|apply Kd.R_alloc|apply Kd.R_drewN|apply Kd.R_drew));exact HO_8.out)⟩;have n2_ : Aside0 (w42.heap[gb117]? = some (.cells #[.int .i64 a2_0,.int .i64 a2_1,.int .i64 a2_2,.int .i64 a2_3,.slice a2_4.a a2_4.n a2_4.c] 27 (0,0))) := ⟨by rw [← hq_];exact (by (with_reducible repeat (first|refine blk_drewN ?_ _|refine blk_drew ?_|refine blk_alloc ?_ _));exact BK117.out)⟩;have n3_ : Aside0 (Below w.heap.size w w42) := ⟨by rw [← hq_];exact (by repeat (first|(with_reducible first|exact HB.out|apply below_alloc|apply pw_below_drewN|apply below_drew1|refine below_set ?_ GE117.out)|exact HB.out))⟩;clear HO_11 HO_8 BK117 HB hq_;have HO_11 := n0_;have HO_8 := n1_;have BK117 := n2_;have HB := n3_;clear n0_ n1_ n2_ n3_))
                  have n0_ := Aside0.mk (Kd.R_drew HO_8.out)
                  have n1_ := Aside0.mk (Kd.R_drew HO_11.out)
                  have n2_ := Aside0.mk (blk_drew BK117.out)
                  have n3_ := Aside0.mk (below_drew1 HB.out)
                  clear HO_8
                  clear HO_11
                  clear BK117
                  clear HB
                  have HO_8 := n0_
                  have HO_11 := n1_
                  have BK117 := n2_
                  have HB := n3_
                  clear n0_ n1_ n2_ n3_
                  have p141 : 0 ≤ (x13_2 : Int) := of_decide_eq_true (by first|(with_reducible assumption)|assumption)
                  have q141 : x13_2 < (t135.length : Int) := of_decide_eq_true (by first|(with_reducible assumption)|assumption)
                  obtain ⟨ad141, e141, hx141_0, hx141_1, hx141_2⟩ := at_T33 (Kd.R_reads' HO_11.out).2.2 x13_2 p141 q141
                  obtain rfl : ad140 = ad141 := (by injection e141)
                  replace p141 := eq_true p141
                  replace q141 := eq_true q141
                  have p142 : 0 ≤ (x13_2 : Int) := of_decide_eq_true (by first|(with_reducible assumption)|assumption)
                  have q142 : x13_2 < (t119.length : Int) := of_decide_eq_true (by first|(with_reducible assumption)|assumption)
                  obtain ⟨ad142, e142, hx142_0, hx142_1, hx142_2⟩ := at_T33 (Kd.R_reads' HO_8.out).2.2 x13_2 p142 q142
                  obtain rfl : ad139 = ad142 := (by injection e142)
                  replace p142 := eq_true p142
                  replace q142 := eq_true q142
                  have p143 : 0 ≤ (x13_2 : Int) := of_decide_eq_true (by first|(with_reducible assumption)|assumption)
                  have q143 : x13_2 < (t119.length : Int) := of_decide_eq_true (by first|(with_reducible assumption)|assumption)
                  obtain ⟨ad143, e143, hx143_0, hx143_1, hx143_2⟩ := at_T33 (Kd.R_reads' HO_8.out).2.2 x13_2 p143 q143
                  obtain rfl : ad139 = ad143 := (by injection e143)
                  replace p143 := eq_true p143
                  replace q143 := eq_true q143
                  have p144 : 0 ≤ (x13_2 : Int) := of_decide_eq_true (by first|(with_reducible assumption)|assumption)
                  have q144 : x13_2 < (t119.length : Int) := of_decide_eq_true (by first|(with_reducible assumption)|assumption)
                  obtain ⟨ad144, e144, hx144_0, hx144_1, hx144_2⟩ := at_T33 (Kd.R_reads' HO_8.out).2.2 x13_2 p144 q144
                  obtain rfl : ad139 = ad144 := (by injection e144)
                  replace p144 := eq_true p144
                  replace q144 := eq_true q144
                  refine start_ (n := 53) (S := fun w' => w'.cell? ⟨gb117,0,none⟩ = some (.int .i64 a2_0) ∧ w'.cell? ⟨gb117,1,none⟩ = some (.int .i64 a2_1) ∧ w'.cell? ⟨gb117,2,none⟩ = some (.int .i64 a2_2) ∧ w'.cell? ⟨gb117,3,none⟩ = some (.int .i64 a2_3) ∧ w'.cell? ⟨gb117,4,none⟩ = some (.slice a2_4.a a2_4.n a2_4.c) ∧ w'.cell? (ad140.add ((x13_2).toNat * 3)) = some (.int .i64 ((rd_T33 t135 x13_2).f0)) ∧ w'.cell? ⟨(ad140.add ((x13_2).toNat * 3)).block,(ad140.add ((x13_2).toNat * 3)).off + 1,none⟩ = some (.int .i64 ((rd_T33 t135 x13_2).f1)) ∧ w'.cell? ⟨(ad140.add ((x13_2).toNat * 3)).block,(ad140.add ((x13_2).toNat * 3)).off + 2,none⟩ = some (.int .i64 ((rd_T33 t135 x13_2).f2)) ∧ w'.cell? (ad139.add ((x13_2).toNat * 3)) = some (.int .i64 ((rd_T33 t119 x13_2).f0)) ∧ w'.cell? ⟨(ad139.add ((x13_2).toNat * 3)).block,(ad139.add ((x13_2).toNat * 3)).off + 1,none⟩ = some (.int .i64 ((rd_T33 t119 x13_2).f1)) ∧ w'.cell? ⟨(ad139.add ((x13_2).toNat * 3)).block,(ad139.add ((x13_2).toNat * 3)).off + 2,none⟩ = some (.int .i64 ((rd_T33 t119 x13_2).f2)) ∧ w'.cell? (ad139.add ((x13_2).toNat * 3)) = some (.int .i64 ((rd_T33 t119 x13_2).f0)) ∧ w'.cell? ⟨(ad139.add ((x13_2).toNat * 3)).block,(ad139.add ((x13_2).toNat * 3)).off + 1,none⟩ = some (.int .i64 ((rd_T33 t119 x13_2).f1)) ∧ w'.cell? ⟨(ad139.add ((x13_2).toNat * 3)).block,(ad139.add ((x13_2).toNat * 3)).off + 2,none⟩ = some (.int .i64 ((rd_T33 t119 x13_2).f2)) ∧ w'.cell? (ad139.add ((x13_2).toNat * 3)) = some (.int .i64 ((rd_T33 t119 x13_2).f0)) ∧ w'.cell? ⟨(ad139.add ((x13_2).toNat * 3)).block,(ad139.add ((x13_2).toNat * 3)).off + 1,none⟩ = some (.int .i64 ((rd_T33 t119 x13_2).f1)) ∧ w'.cell? ⟨(ad139.add ((x13_2).toNat * 3)).block,(ad139.add ((x13_2).toNat * 3)).off + 2,none⟩ = some (.int .i64 ((rd_T33 t119 x13_2).f2))) (ds := []) #[false,false,false,false,false,false,false,false,false,false,false,false,false,false,false,false,false,false,false,false,false,false,false,false,false,false,false,false,false,false,false,false,false,false,false,false,false,false,false,false,false,false,false,false,false,false,false,false,false,false,false,false,false] (by kernel_rfl) rfl rfl ⟨(blk_cell BK117.out 0).trans rfl,(blk_cell BK117.out 1).trans rfl,(blk_cell BK117.out 2).trans rfl,(blk_cell BK117.out 3).trans rfl,(blk_cell BK117.out 4).trans rfl,hx141_0,hx141_1,hx141_2,hx142_0,hx142_1,hx142_2,hx143_0,hx143_1,hx143_2,hx144_0,hx144_1,hx144_2⟩ (fun hHeld => ?_);refine with_tabW strakelaw18_ReplayMore.tab13 strakelaw18_ReplayMore.bits13 (fun HT_ HW_ => ?_)
                  generalize w42.drew = w50 at HO_8 HO_11 BK117 HB hx141_0 hx141_1 hx141_2 hx142_0 hx142_1 hx142_2 hx143_0 hx143_1 hx143_2 hx144_0 hx144_1 hx144_2 hHeld ⊢
                  refine pure_ (i := 0) (N := some 62) (v := ?_) (a' := ?_) #[true,false,false,false,false,false,false,false,false,false,false,false,false,false,false,false,false,false,false,false,false,false,false,false,false,false,false,false,false,false,false,false,false,false,false,false,false,false,false,false,false,false,false,false,false,false,false,false,false,false,false,false,false] rfl rfl (any_of HT_.out (by kernel_rfl)) (fun _ _ _ h => h) (Or.inl ⟨by rfl,?_⟩) ?_ ?_
                  rotate_left
                  ·intro w'
                   go_simp
                   with_reducible rfl
                  rotate_left
                  ·simp only [Act.put, qa, qb, qc, i64_w, i32_w]
                   rfl
                  refine pure_ (i := 1) (N := some 63) (v := ?_) (a' := ?_) #[true,true,false,false,false,false,false,false,false,false,false,false,false,false,false,false,false,false,false,false,false,false,false,false,false,false,false,false,false,false,false,false,false,false,false,false,false,false,false,false,false,false,false,false,false,false,false,false,false,false,false,false,false] rfl rfl (any_of HT_.out (by kernel_rfl)) (fun _ _ _ h => h) (Or.inl ⟨by rfl,?_⟩) ?_ ?_
                  rotate_left
                  ·intro w'
                   go_simp
                   with_reducible rfl
                  rotate_left
                  ·simp only [Act.put, qa, qb, qc, i64_w, i32_w]
                   rfl
                  refine pure_ (i := 3) (N := some 65) (v := ?_) (a' := ?_) #[true,true,false,true,false,false,false,false,false,false,false,false,false,false,false,false,false,false,false,false,false,false,false,false,false,false,false,false,false,false,false,false,false,false,false,false,false,false,false,false,false,false,false,false,false,false,false,false,false,false,false,false,false] rfl rfl (any_of HT_.out (by kernel_rfl)) (fun _ _ _ h => h) (Or.inl ⟨by rfl,?_⟩) ?_ ?_
                  rotate_left
                  ·intro w'
                   go_simp
                   with_reducible rfl
                  rotate_left
                  ·simp only [Act.put, qa, qb, qc, i64_w, i32_w]
                   rfl
                  refine take_ (i := 2) (N := some 64) (v := ?_) (a' := ?_) #[true,true,true,true,false,false,false,false,false,false,false,false,false,false,false,false,false,false,false,false,false,false,false,false,false,false,false,false,false,false,false,false,false,false,false,false,false,false,false,false,false,false,false,false,false,false,false,false,false,false,false,false,false] rfl rfl (take_ofW HT_.out HW_.out (by kernel_rfl)) (fun _ _ _ h => h) (Or.inl ⟨by rfl,?_⟩) hHeld ?_ ?_
                  rotate_left
                  ·rintro w' ⟨s0, s1, s2, s3, s4, s5, s6, s7, s8, s9, s10, s11, s12, s13, s14, s15, s16⟩
                   go_simp
                   with_reducible rfl
                  rotate_left
                  ·simp only [Act.put, qa, qb, qc, i64_w, i32_w]
                   rfl
                  refine pure_ (i := 4) (N := some 66) (v := ?_) (a' := ?_) #[true,true,true,true,true,false,false,false,false,false,false,false,false,false,false,false,false,false,false,false,false,false,false,false,false,false,false,false,false,false,false,false,false,false,false,false,false,false,false,false,false,false,false,false,false,false,false,false,false,false,false,false,false] rfl rfl (any_of HT_.out (by kernel_rfl)) (fun _ _ _ h => h) (Or.inl ⟨by rfl,?_⟩) ?_ ?_
                  rotate_left
                  ·intro w'
                   go_simp
                   with_reducible rfl
                  rotate_left
                  ·simp only [Act.put, qa, qb, qc, i64_w, i32_w]
                   rfl
                  refine pure_ (i := 5) (N := some 67) (v := ?_) (a' := ?_) #[true,true,true,true,true,true,false,false,false,false,false,false,false,false,false,false,false,false,false,false,false,false,false,false,false,false,false,false,false,false,false,false,false,false,false,false,false,false,false,false,false,false,false,false,false,false,false,false,false,false,false,false,false] rfl rfl (any_of HT_.out (by kernel_rfl)) (fun _ _ _ h => h) (Or.inl ⟨by rfl,?_⟩) ?_ ?_
                  rotate_left
                  ·intro w'
                   go_simp
                   with_reducible rfl
                  rotate_left
                  ·simp only [Act.put, qa, qb, qc, i64_w, i32_w]
                   rfl
                  refine pure_ (i := 6) (N := some 68) (v := ?_) (a' := ?_) #[true,true,true,true,true,true,true,false,false,false,false,false,false,false,false,false,false,false,false,false,false,false,false,false,false,false,false,false,false,false,false,false,false,false,false,false,false,false,false,false,false,false,false,false,false,false,false,false,false,false,false,false,false] rfl rfl (any_of HT_.out (by kernel_rfl)) (fun _ _ _ h => h) (Or.inl ⟨by rfl,?_⟩) ?_ ?_
                  rotate_left
                  ·intro w'
                   go_simp
                   with_reducible rfl
                  rotate_left
                  ·simp only [Act.put, qa, qb, qc, i64_w, i32_w]
                   rfl
                  refine pure_ (i := 7) (N := some 69) (v := ?_) (a' := ?_) #[true,true,true,true,true,true,true,true,false,false,false,false,false,false,false,false,false,false,false,false,false,false,false,false,false,false,false,false,false,false,false,false,false,false,false,false,false,false,false,false,false,false,false,false,false,false,false,false,false,false,false,false,false] rfl rfl (any_of HT_.out (by kernel_rfl)) (fun _ _ _ h => h) (Or.inl ⟨by rfl,?_⟩) ?_ ?_
                  rotate_left
                  ·intro w'
                   go_simp
                   with_reducible rfl
                  rotate_left
                  ·simp only [Act.put, qa, qb, qc, i64_w, i32_w]
                   rfl
                  refine pure_ (i := 8) (N := some 70) (v := ?_) (a' := ?_) #[true,true,true,true,true,true,true,true,true,false,false,false,false,false,false,false,false,false,false,false,false,false,false,false,false,false,false,false,false,false,false,false,false,false,false,false,false,false,false,false,false,false,false,false,false,false,false,false,false,false,false,false,false] rfl rfl (any_of HT_.out (by kernel_rfl)) (fun _ _ _ h => h) (Or.inl ⟨by rfl,?_⟩) ?_ ?_
                  rotate_left
                  ·intro w'
                   go_simp
                   with_reducible rfl
                  rotate_left
                  ·simp only [Act.put, qa, qb, qc, i64_w, i32_w]
                   rfl
                  refine pure_ (i := 10) (N := some 72) (v := ?_) (a' := ?_) #[true,true,true,true,true,true,true,true,true,false,true,false,false,false,false,false,false,false,false,false,false,false,false,false,false,false,false,false,false,false,false,false,false,false,false,false,false,false,false,false,false,false,false,false,false,false,false,false,false,false,false,false,false] rfl rfl (any_of HT_.out (by kernel_rfl)) (fun _ _ _ h => h) (Or.inl ⟨by rfl,?_⟩) ?_ ?_
                  rotate_left
                  ·intro w'
                   go_simp
                   with_reducible rfl
                  rotate_left
                  ·simp only [Act.put, qa, qb, qc, i64_w, i32_w]
                   rfl
                  refine pure_ (i := 12) (N := some 74) (v := ?_) (a' := ?_) #[true,true,true,true,true,true,true,true,true,false,true,false,true,false,false,false,false,false,false,false,false,false,false,false,false,false,false,false,false,false,false,false,false,false,false,false,false,false,false,false,false,false,false,false,false,false,false,false,false,false,false,false,false] rfl rfl (any_of HT_.out (by kernel_rfl)) (fun _ _ _ h => h) (Or.inl ⟨by rfl,?_⟩) ?_ ?_
                  rotate_left
                  ·intro w'
                   go_simp
                   with_reducible rfl
                  rotate_left
                  ·simp only [Act.put, qa, qb, qc, i64_w, i32_w]
                   rfl
                  refine pure_ (i := 13) (N := some 75) (v := ?_) (a' := ?_) #[true,true,true,true,true,true,true,true,true,false,true,false,true,true,false,false,false,false,false,false,false,false,false,false,false,false,false,false,false,false,false,false,false,false,false,false,false,false,false,false,false,false,false,false,false,false,false,false,false,false,false,false,false] rfl rfl (any_of HT_.out (by kernel_rfl)) (fun _ _ _ h => h) (Or.inl ⟨by rfl,?_⟩) ?_ ?_
                  rotate_left
                  ·intro w'
                   go_simp
                   with_reducible rfl
                  rotate_left
                  ·simp only [Act.put, qa, qb, qc, i64_w, i32_w]
                   rfl
                  refine pure_ (i := 15) (N := some 77) (v := ?_) (a' := ?_) #[true,true,true,true,true,true,true,true,true,false,true,false,true,true,false,true,false,false,false,false,false,false,false,false,false,false,false,false,false,false,false,false,false,false,false,false,false,false,false,false,false,false,false,false,false,false,false,false,false,false,false,false,false] rfl rfl (any_of HT_.out (by kernel_rfl)) (fun _ _ _ h => h) (Or.inl ⟨by rfl,?_⟩) ?_ ?_
                  rotate_left
                  ·intro w'
                   go_simp
                   with_reducible rfl
                  rotate_left
                  ·simp only [Act.put, qa, qb, qc, i64_w, i32_w]
                   rfl
                  refine pure_ (i := 16) (N := some 78) (v := ?_) (a' := ?_) #[true,true,true,true,true,true,true,true,true,false,true,false,true,true,false,true,true,false,false,false,false,false,false,false,false,false,false,false,false,false,false,false,false,false,false,false,false,false,false,false,false,false,false,false,false,false,false,false,false,false,false,false,false] rfl rfl (any_of HT_.out (by kernel_rfl)) (fun _ _ _ h => h) (Or.inl ⟨by rfl,?_⟩) ?_ ?_
                  rotate_left
                  ·intro w'
                   go_simp
                   with_reducible rfl
                  rotate_left
                  ·simp only [Act.put, qa, qb, qc, i64_w, i32_w]
                   rfl
                  refine take_ (i := 9) (N := some 71) (v := ?_) (a' := ?_) #[true,true,true,true,true,true,true,true,true,true,true,false,true,true,false,true,true,false,false,false,false,false,false,false,false,false,false,false,false,false,false,false,false,false,false,false,false,false,false,false,false,false,false,false,false,false,false,false,false,false,false,false,false] rfl rfl (take_ofW HT_.out HW_.out (by kernel_rfl)) (fun _ _ _ h => h) (Or.inl ⟨by rfl,?_⟩) hHeld ?_ ?_
                  rotate_left
                  ·rintro w' ⟨s0, s1, s2, s3, s4, s5, s6, s7, s8, s9, s10, s11, s12, s13, s14, s15, s16⟩
                   go_simp
                   with_reducible rfl
                  rotate_left
                  ·simp only [Act.put, qa, qb, qc, i64_w, i32_w]
                   rfl
                  refine take_ (i := 11) (N := some 73) (v := ?_) (a' := ?_) #[true,true,true,true,true,true,true,true,true,true,true,true,true,true,false,true,true,false,false,false,false,false,false,false,false,false,false,false,false,false,false,false,false,false,false,false,false,false,false,false,false,false,false,false,false,false,false,false,false,false,false,false,false] rfl rfl (take_ofW HT_.out HW_.out (by kernel_rfl)) (fun _ _ _ h => h) (Or.inl ⟨by rfl,?_⟩) hHeld ?_ ?_
                  rotate_left
                  ·rintro w' ⟨s0, s1, s2, s3, s4, s5, s6, s7, s8, s9, s10, s11, s12, s13, s14, s15, s16⟩
                   go_simp
                   with_reducible rfl
                  rotate_left
                  ·simp only [Act.put, qa, qb, qc, i64_w, i32_w]
                   rfl
                  refine take_ (i := 14) (N := some 76) (v := ?_) (a' := ?_) #[true,true,true,true,true,true,true,true,true,true,true,true,true,true,true,true,true,false,false,false,false,false,false,false,false,false,false,false,false,false,false,false,false,false,false,false,false,false,false,false,false,false,false,false,false,false,false,false,false,false,false,false,false] rfl rfl (take_ofW HT_.out HW_.out (by kernel_rfl)) (fun _ _ _ h => h) (Or.inl ⟨by rfl,?_⟩) hHeld ?_ ?_
                  rotate_left
                  ·rintro w' ⟨s0, s1, s2, s3, s4, s5, s6, s7, s8, s9, s10, s11, s12, s13, s14, s15, s16⟩
                   go_simp
                   with_reducible rfl
                  rotate_left
                  ·simp only [Act.put, qa, qb, qc, i64_w, i32_w]
                   rfl
                  refine take_ (i := 17) (N := some 79) (v := ?_) (a' := ?_) #[true,true,true,true,true,true,true,true,true,true,true,true,true,true,true,true,true,true,false,false,false,false,false,false,false,false,false,false,false,false,false,false,false,false,false,false,false,false,false,false,false,false,false,false,false,false,false,false,false,false,false,false,false] rfl rfl (take_ofW HT_.out HW_.out (by kernel_rfl)) (fun _ _ _ h => h) (Or.inl ⟨by rfl,?_⟩) hHeld ?_ ?_
                  rotate_left
                  ·rintro w' ⟨s0, s1, s2, s3, s4, s5, s6, s7, s8, s9, s10, s11, s12, s13, s14, s15, s16⟩
                   go_simp
                   with_reducible rfl
                  rotate_left
                  ·simp only [Act.put, qa, qb, qc, i64_w, i32_w]
                   rfl
                  refine pure_ (i := 18) (N := some 80) (v := ?_) (a' := ?_) #[true,true,true,true,true,true,true,true,true,true,true,true,true,true,true,true,true,true,true,false,false,false,false,false,false,false,false,false,false,false,false,false,false,false,false,false,false,false,false,false,false,false,false,false,false,false,false,false,false,false,false,false,false] rfl rfl (any_of HT_.out (by kernel_rfl)) (fun _ _ _ h => h) (Or.inl ⟨by rfl,?_⟩) ?_ ?_
                  rotate_left
                  ·intro w'
                   go_simp
                   with_reducible rfl
                  rotate_left
                  ·simp only [Act.put, qa, qb, qc, i64_w, i32_w]
                   rfl
                  refine pure_ (i := 19) (N := some 81) (v := ?_) (a' := ?_) #[true,true,true,true,true,true,true,true,true,true,true,true,true,true,true,true,true,true,true,true,false,false,false,false,false,false,false,false,false,false,false,false,false,false,false,false,false,false,false,false,false,false,false,false,false,false,false,false,false,false,false,false,false] rfl rfl (any_of HT_.out (by kernel_rfl)) (fun _ _ _ h => h) (Or.inl ⟨by rfl,?_⟩) ?_ ?_
                  rotate_left
                  ·intro w'
                   go_simp
                   with_reducible rfl
                  rotate_left
                  ·simp only [Act.put, qa, qb, qc, i64_w, i32_w]
                   rfl
                  refine pure_ (i := 20) (N := some 82) (v := ?_) (a' := ?_) #[true,true,true,true,true,true,true,true,true,true,true,true,true,true,true,true,true,true,true,true,true,false,false,false,false,false,false,false,false,false,false,false,false,false,false,false,false,false,false,false,false,false,false,false,false,false,false,false,false,false,false,false,false] rfl rfl (any_of HT_.out (by kernel_rfl)) (fun _ _ _ h => h) (Or.inl ⟨by rfl,?_⟩) ?_ ?_
                  rotate_left
                  ·intro w'
                   go_simp
                   with_reducible rfl
                  rotate_left
                  ·simp only [Act.put, qa, qb, qc, i64_w, i32_w]
                   rfl
                  refine pure_ (i := 21) (N := some 83) (v := ?_) (a' := ?_) #[true,true,true,true,true,true,true,true,true,true,true,true,true,true,true,true,true,true,true,true,true,true,false,false,false,false,false,false,false,false,false,false,false,false,false,false,false,false,false,false,false,false,false,false,false,false,false,false,false,false,false,false,false] rfl rfl (any_of HT_.out (by kernel_rfl)) (fun _ _ _ h => h) (Or.inl ⟨by rfl,?_⟩) ?_ ?_
                  rotate_left
                  ·intro w'
                   go_simp
                   with_reducible rfl
                  rotate_left
                  ·simp only [Act.put, qa, qb, qc, i64_w, i32_w]
                   rfl
                  refine pure_ (i := 22) (N := some 84) (v := ?_) (a' := ?_) #[true,true,true,true,true,true,true,true,true,true,true,true,true,true,true,true,true,true,true,true,true,true,true,false,false,false,false,false,false,false,false,false,false,false,false,false,false,false,false,false,false,false,false,false,false,false,false,false,false,false,false,false,false] rfl rfl (any_of HT_.out (by kernel_rfl)) (fun _ _ _ h => h) (Or.inl ⟨by rfl,?_⟩) ?_ ?_
                  rotate_left
                  ·intro w'
                   go_simp
                   with_reducible rfl
                  rotate_left
                  ·simp only [Act.put, qa, qb, qc, i64_w, i32_w]
                   rfl
                  refine pure_ (i := 23) (N := some 85) (v := ?_) (a' := ?_) #[true,true,true,true,true,true,true,true,true,true,true,true,true,true,true,true,true,true,true,true,true,true,true,true,false,false,false,false,false,false,false,false,false,false,false,false,false,false,false,false,false,false,false,false,false,false,false,false,false,false,false,false,false] rfl rfl (any_of HT_.out (by kernel_rfl)) (fun _ _ _ h => h) (Or.inl ⟨by rfl,?_⟩) ?_ ?_
                  rotate_left
                  ·intro w'
                   go_simp
                   with_reducible rfl
                  rotate_left
                  ·simp only [Act.put, qa, qb, qc, i64_w, i32_w]
                   rfl
                  refine pure_ (i := 25) (N := some 87) (v := ?_) (a' := ?_) #[true,true,true,true,true,true,true,true,true,true,true,true,true,true,true,true,true,true,true,true,true,true,true,true,false,true,false,false,false,false,false,false,false,false,false,false,false,false,false,false,false,false,false,false,false,false,false,false,false,false,false,false,false] rfl rfl (any_of HT_.out (by kernel_rfl)) (fun _ _ _ h => h) (Or.inl ⟨by rfl,?_⟩) ?_ ?_
                  rotate_left
                  ·intro w'
                   go_simp
                   with_reducible rfl
                  rotate_left
                  ·simp only [Act.put, qa, qb, qc, i64_w, i32_w]
                   rfl
                  refine pure_ (i := 26) (N := some 88) (v := ?_) (a' := ?_) #[true,true,true,true,true,true,true,true,true,true,true,true,true,true,true,true,true,true,true,true,true,true,true,true,false,true,true,false,false,false,false,false,false,false,false,false,false,false,false,false,false,false,false,false,false,false,false,false,false,false,false,false,false] rfl rfl (any_of HT_.out (by kernel_rfl)) (fun _ _ _ h => h) (Or.inl ⟨by rfl,?_⟩) ?_ ?_
                  rotate_left
                  ·intro w'
                   go_simp
                   with_reducible rfl
                  rotate_left
                  ·simp only [Act.put, qa, qb, qc, i64_w, i32_w]
                   rfl
                  refine pure_ (i := 27) (N := some 89) (v := ?_) (a' := ?_) #[true,true,true,true,true,true,true,true,true,true,true,true,true,true,true,true,true,true,true,true,true,true,true,true,false,true,true,true,false,false,false,false,false,false,false,false,false,false,false,false,false,false,false,false,false,false,false,false,false,false,false,false,false] rfl rfl (any_of HT_.out (by kernel_rfl)) (fun _ _ _ h => h) (Or.inl ⟨by rfl,?_⟩) ?_ ?_
                  rotate_left
                  ·intro w'
                   go_simp
                   with_reducible rfl
                  rotate_left
                  ·simp only [Act.put, qa, qb, qc, i64_w, i32_w]
                   rfl
                  refine pure_ (i := 28) (N := some 90) (v := ?_) (a' := ?_) #[true,true,true,true,true,true,true,true,true,true,true,true,true,true,true,true,true,true,true,true,true,true,true,true,false,true,true,true,true,false,false,false,false,false,false,false,false,false,false,false,false,false,false,false,false,false,false,false,false,false,false,false,false] rfl rfl (any_of HT_.out (by kernel_rfl)) (fun _ _ _ h => h) (Or.inl ⟨by rfl,?_⟩) ?_ ?_
                  rotate_left
                  ·intro w'
                   go_simp
                   with_reducible rfl
                  rotate_left
                  ·simp only [Act.put, qa, qb, qc, i64_w, i32_w]
                   rfl
                  refine take_ (i := 24) (N := some 86) (v := ?_) (a' := ?_) #[true,true,true,true,true,true,true,true,true,true,true,true,true,true,true,true,true,true,true,true,true,true,true,true,true,true,true,true,true,false,false,false,false,false,false,false,false,false,false,false,false,false,false,false,false,false,false,false,false,false,false,false,false] rfl rfl (take_ofW HT_.out HW_.out (by kernel_rfl)) (fun _ _ _ h => h) (Or.inl ⟨by rfl,?_⟩) hHeld ?_ ?_
                  rotate_left
                  ·rintro w' ⟨s0, s1, s2, s3, s4, s5, s6, s7, s8, s9, s10, s11, s12, s13, s14, s15, s16⟩
                   go_simp
                   with_reducible rfl
                  rotate_left
                  ·simp only [Act.put, qa, qb, qc, i64_w, i32_w]
                   rfl
                  refine take_ (i := 29) (N := some 91) (v := ?_) (a' := ?_) #[true,true,true,true,true,true,true,true,true,true,true,true,true,true,true,true,true,true,true,true,true,true,true,true,true,true,true,true,true,true,false,false,false,false,false,false,false,false,false,false,false,false,false,false,false,false,false,false,false,false,false,false,false] rfl rfl (take_ofW HT_.out HW_.out (by kernel_rfl)) (fun _ _ _ h => h) (Or.inl ⟨by rfl,?_⟩) hHeld ?_ ?_
                  rotate_left
                  ·rintro w' ⟨s0, s1, s2, s3, s4, s5, s6, s7, s8, s9, s10, s11, s12, s13, s14, s15, s16⟩
                   go_simp
                   with_reducible rfl
                  rotate_left
                  ·simp only [Act.put, qa, qb, qc, i64_w, i32_w]
                   rfl
                  refine pure_ (i := 30) (N := some 92) (v := ?_) (a' := ?_) #[true,true,true,true,true,true,true,true,true,true,true,true,true,true,true,true,true,true,true,true,true,true,true,true,true,true,true,true,true,true,true,false,false,false,false,false,false,false,false,false,false,false,false,false,false,false,false,false,false,false,false,false,false] rfl rfl (any_of HT_.out (by kernel_rfl)) (fun _ _ _ h => h) (Or.inl ⟨by rfl,?_⟩) ?_ ?_
                  rotate_left
                  ·intro w'
                   go_simp
                   with_reducible rfl
                  rotate_left
                  ·simp only [Act.put, qa, qb, qc, i64_w, i32_w]
                   rfl
                  refine pure_ (i := 31) (N := some 93) (v := ?_) (a' := ?_) #[true,true,true,true,true,true,true,true,true,true,true,true,true,true,true,true,true,true,true,true,true,true,true,true,true,true,true,true,true,true,true,true,false,false,false,false,false,false,false,false,false,false,false,false,false,false,false,false,false,false,false,false,false] rfl rfl (any_of HT_.out (by kernel_rfl)) (fun _ _ _ h => h) (Or.inl ⟨by rfl,?_⟩) ?_ ?_
                  rotate_left
                  ·intro w'
                   go_simp
                   with_reducible rfl
                  rotate_left
                  ·simp only [Act.put, qa, qb, qc, i64_w, i32_w]
                   rfl
                  refine pure_ (i := 32) (N := some 94) (v := ?_) (a' := ?_) #[true,true,true,true,true,true,true,true,true,true,true,true,true,true,true,true,true,true,true,true,true,true,true,true,true,true,true,true,true,true,true,true,true,false,false,false,false,false,false,false,false,false,false,false,false,false,false,false,false,false,false,false,false] rfl rfl (any_of HT_.out (by kernel_rfl)) (fun _ _ _ h => h) (Or.inl ⟨by rfl,?_⟩) ?_ ?_
                  rotate_left
                  ·intro w'
                   go_simp
                   with_reducible rfl
                  rotate_left
                  ·simp only [Act.put, qa, qb, qc, i64_w, i32_w]
                   rfl
                  refine pure_ (i := 33) (N := some 95) (v := ?_) (a' := ?_) #[true,true,true,true,true,true,true,true,true,true,true,true,true,true,true,true,true,true,true,true,true,true,true,true,true,true,true,true,true,true,true,true,true,true,false,false,false,false,false,false,false,false,false,false,false,false,false,false,false,false,false,false,false] rfl rfl (any_of HT_.out (by kernel_rfl)) (fun _ _ _ h => h) (Or.inl ⟨by rfl,?_⟩) ?_ ?_
                  rotate_left
                  ·intro w'
                   go_simp
                   with_reducible rfl
                  rotate_left
                  ·simp only [Act.put, qa, qb, qc, i64_w, i32_w]
                   rfl
                  refine pure_ (i := 34) (N := some 96) (v := ?_) (a' := ?_) #[true,true,true,true,true,true,true,true,true,true,true,true,true,true,true,true,true,true,true,true,true,true,true,true,true,true,true,true,true,true,true,true,true,true,true,false,false,false,false,false,false,false,false,false,false,false,false,false,false,false,false,false,false] rfl rfl (any_of HT_.out (by kernel_rfl)) (fun _ _ _ h => h) (Or.inl ⟨by rfl,?_⟩) ?_ ?_
                  rotate_left
                  ·intro w'
                   go_simp
                   with_reducible rfl
                  rotate_left
                  ·simp only [Act.put, qa, qb, qc, i64_w, i32_w]
                   rfl
                  refine pure_ (i := 36) (N := some 98) (v := ?_) (a' := ?_) #[true,true,true,true,true,true,true,true,true,true,true,true,true,true,true,true,true,true,true,true,true,true,true,true,true,true,true,true,true,true,true,true,true,true,true,false,true,false,false,false,false,false,false,false,false,false,false,false,false,false,false,false,false] rfl rfl (any_of HT_.out (by kernel_rfl)) (fun _ _ _ h => h) (Or.inl ⟨by rfl,?_⟩) ?_ ?_
                  rotate_left
                  ·intro w'
                   go_simp
                   with_reducible rfl
                  rotate_left
                  ·simp only [Act.put, qa, qb, qc, i64_w, i32_w]
                   rfl
                  refine pure_ (i := 37) (N := some 99) (v := ?_) (a' := ?_) #[true,true,true,true,true,true,true,true,true,true,true,true,true,true,true,true,true,true,true,true,true,true,true,true,true,true,true,true,true,true,true,true,true,true,true,false,true,true,false,false,false,false,false,false,false,false,false,false,false,false,false,false,false] rfl rfl (any_of HT_.out (by kernel_rfl)) (fun _ _ _ h => h) (Or.inl ⟨by rfl,?_⟩) ?_ ?_
                  rotate_left
                  ·intro w'
                   go_simp
                   with_reducible rfl
                  rotate_left
                  ·simp only [Act.put, qa, qb, qc, i64_w, i32_w]
                   rfl
                  refine pure_ (i := 38) (N := some 100) (v := ?_) (a' := ?_) #[true,true,true,true,true,true,true,true,true,true,true,true,true,true,true,true,true,true,true,true,true,true,true,true,true,true,true,true,true,true,true,true,true,true,true,false,true,true,true,false,false,false,false,false,false,false,false,false,false,false,false,false,false] rfl rfl (any_of HT_.out (by kernel_rfl)) (fun _ _ _ h => h) (Or.inl ⟨by rfl,?_⟩) ?_ ?_
                  rotate_left
                  ·intro w'
                   go_simp
                   with_reducible rfl
                  rotate_left
                  ·simp only [Act.put, qa, qb, qc, i64_w, i32_w]
                   rfl
                  refine pure_ (i := 39) (N := some 101) (v := ?_) (a' := ?_) #[true,true,true,true,true,true,true,true,true,true,true,true,true,true,true,true,true,true,true,true,true,true,true,true,true,true,true,true,true,true,true,true,true,true,true,false,true,true,true,true,false,false,false,false,false,false,false,false,false,false,false,false,false] rfl rfl (any_of HT_.out (by kernel_rfl)) (fun _ _ _ h => h) (Or.inl ⟨by rfl,?_⟩) ?_ ?_
                  rotate_left
                  ·intro w'
                   go_simp
                   with_reducible rfl
                  rotate_left
                  ·simp only [Act.put, qa, qb, qc, i64_w, i32_w]
                   rfl
                  refine take_ (i := 35) (N := some 97) (v := ?_) (a' := ?_) #[true,true,true,true,true,true,true,true,true,true,true,true,true,true,true,true,true,true,true,true,true,true,true,true,true,true,true,true,true,true,true,true,true,true,true,true,true,true,true,true,false,false,false,false,false,false,false,false,false,false,false,false,false] rfl rfl (take_ofW HT_.out HW_.out (by kernel_rfl)) (fun _ _ _ h => h) (Or.inl ⟨by rfl,?_⟩) hHeld ?_ ?_
                  rotate_left
                  ·rintro w' ⟨s0, s1, s2, s3, s4, s5, s6, s7, s8, s9, s10, s11, s12, s13, s14, s15, s16⟩
                   go_simp
                   with_reducible rfl
                  rotate_left
                  ·simp only [Act.put, qa, qb, qc, i64_w, i32_w]
                   rfl
                  refine take_ (i := 40) (N := some 102) (v := ?_) (a' := ?_) #[true,true,true,true,true,true,true,true,true,true,true,true,true,true,true,true,true,true,true,true,true,true,true,true,true,true,true,true,true,true,true,true,true,true,true,true,true,true,true,true,true,false,false,false,false,false,false,false,false,false,false,false,false] rfl rfl (take_ofW HT_.out HW_.out (by kernel_rfl)) (fun _ _ _ h => h) (Or.inl ⟨by rfl,?_⟩) hHeld ?_ ?_
                  rotate_left
                  ·rintro w' ⟨s0, s1, s2, s3, s4, s5, s6, s7, s8, s9, s10, s11, s12, s13, s14, s15, s16⟩
                   go_simp
                   with_reducible rfl
                  rotate_left
                  ·simp only [Act.put, qa, qb, qc, i64_w, i32_w]
                   rfl
                  refine pure_ (i := 41) (N := some 103) (v := ?_) (a' := ?_) #[true,true,true,true,true,true,true,true,true,true,true,true,true,true,true,true,true,true,true,true,true,true,true,true,true,true,true,true,true,true,true,true,true,true,true,true,true,true,true,true,true,true,false,false,false,false,false,false,false,false,false,false,false] rfl rfl (any_of HT_.out (by kernel_rfl)) (fun _ _ _ h => h) (Or.inl ⟨by rfl,?_⟩) ?_ ?_
                  rotate_left
                  ·intro w'
                   go_simp
                   with_reducible rfl
                  rotate_left
                  ·simp only [Act.put, qa, qb, qc, i64_w, i32_w]
                   rfl
                  refine pure_ (i := 42) (N := some 104) (v := ?_) (a' := ?_) #[true,true,true,true,true,true,true,true,true,true,true,true,true,true,true,true,true,true,true,true,true,true,true,true,true,true,true,true,true,true,true,true,true,true,true,true,true,true,true,true,true,true,true,false,false,false,false,false,false,false,false,false,false] rfl rfl (any_of HT_.out (by kernel_rfl)) (fun _ _ _ h => h) (Or.inl ⟨by rfl,?_⟩) ?_ ?_
                  rotate_left
                  ·intro w'
                   go_simp
                   with_reducible rfl
                  rotate_left
                  ·simp only [Act.put, qa, qb, qc, i64_w, i32_w]
                   rfl
                  refine pure_ (i := 43) (N := some 105) (v := ?_) (a' := ?_) #[true,true,true,true,true,true,true,true,true,true,true,true,true,true,true,true,true,true,true,true,true,true,true,true,true,true,true,true,true,true,true,true,true,true,true,true,true,true,true,true,true,true,true,true,false,false,false,false,false,false,false,false,false] rfl rfl (any_of HT_.out (by kernel_rfl)) (fun _ _ _ h => h) (Or.inl ⟨by rfl,?_⟩) ?_ ?_
                  rotate_left
                  ·intro w'
                   go_simp
                   with_reducible rfl
                  rotate_left
                  ·simp only [Act.put, qa, qb, qc, i64_w, i32_w]
                   rfl
                  refine pure_ (i := 45) (N := some 107) (v := ?_) (a' := ?_) #[true,true,true,true,true,true,true,true,true,true,true,true,true,true,true,true,true,true,true,true,true,true,true,true,true,true,true,true,true,true,true,true,true,true,true,true,true,true,true,true,true,true,true,true,false,true,false,false,false,false,false,false,false] rfl rfl (any_of HT_.out (by kernel_rfl)) (fun _ _ _ h => h) (Or.inl ⟨by rfl,?_⟩) ?_ ?_
                  rotate_left
                  ·intro w'
                   go_simp
                   with_reducible rfl
                  rotate_left
                  ·simp only [Act.put, qa, qb, qc, i64_w, i32_w]
                   rfl
                  refine pure_ (i := 46) (N := some 108) (v := ?_) (a' := ?_) #[true,true,true,true,true,true,true,true,true,true,true,true,true,true,true,true,true,true,true,true,true,true,true,true,true,true,true,true,true,true,true,true,true,true,true,true,true,true,true,true,true,true,true,true,false,true,true,false,false,false,false,false,false] rfl rfl (any_of HT_.out (by kernel_rfl)) (fun _ _ _ h => h) (Or.inl ⟨by rfl,?_⟩) ?_ ?_
                  rotate_left
                  ·intro w'
                   go_simp
                   with_reducible rfl
                  rotate_left
                  ·simp only [Act.put, qa, qb, qc, i64_w, i32_w]
                   rfl
                  refine pure_ (i := 47) (N := some 109) (v := ?_) (a' := ?_) #[true,true,true,true,true,true,true,true,true,true,true,true,true,true,true,true,true,true,true,true,true,true,true,true,true,true,true,true,true,true,true,true,true,true,true,true,true,true,true,true,true,true,true,true,false,true,true,true,false,false,false,false,false] rfl rfl (any_of HT_.out (by kernel_rfl)) (fun _ _ _ h => h) (Or.inl ⟨by rfl,?_⟩) ?_ ?_
                  rotate_left
                  ·intro w'
                   go_simp
                   with_reducible rfl
                  rotate_left
                  ·simp only [Act.put, qa, qb, qc, i64_w, i32_w]
                   rfl
                  refine pure_ (i := 48) (N := some 110) (v := ?_) (a' := ?_) #[true,true,true,true,true,true,true,true,true,true,true,true,true,true,true,true,true,true,true,true,true,true,true,true,true,true,true,true,true,true,true,true,true,true,true,true,true,true,true,true,true,true,true,true,false,true,true,true,true,false,false,false,false] rfl rfl (any_of HT_.out (by kernel_rfl)) (fun _ _ _ h => h) (Or.inl ⟨by rfl,?_⟩) ?_ ?_
                  rotate_left
                  ·intro w'
                   go_simp
                   with_reducible rfl
                  rotate_left
                  ·simp only [Act.put, qa, qb, qc, i64_w, i32_w]
                   rfl
                  refine take_ (i := 44) (N := some 106) (v := ?_) (a' := ?_) #[true,true,true,true,true,true,true,true,true,true,true,true,true,true,true,true,true,true,true,true,true,true,true,true,true,true,true,true,true,true,true,true,true,true,true,true,true,true,true,true,true,true,true,true,true,true,true,true,true,false,false,false,false] rfl rfl (take_ofW HT_.out HW_.out (by kernel_rfl)) (fun _ _ _ h => h) (Or.inl ⟨by rfl,?_⟩) hHeld ?_ ?_
                  rotate_left
                  ·rintro w' ⟨s0, s1, s2, s3, s4, s5, s6, s7, s8, s9, s10, s11, s12, s13, s14, s15, s16⟩
                   go_simp
                   with_reducible rfl
                  rotate_left
                  ·simp only [Act.put, qa, qb, qc, i64_w, i32_w]
                   rfl
                  refine take_ (i := 49) (N := some 111) (v := ?_) (a' := ?_) #[true,true,true,true,true,true,true,true,true,true,true,true,true,true,true,true,true,true,true,true,true,true,true,true,true,true,true,true,true,true,true,true,true,true,true,true,true,true,true,true,true,true,true,true,true,true,true,true,true,true,false,false,false] rfl rfl (take_ofW HT_.out HW_.out (by kernel_rfl)) (fun _ _ _ h => h) (Or.inl ⟨by rfl,?_⟩) hHeld ?_ ?_
                  rotate_left
                  ·rintro w' ⟨s0, s1, s2, s3, s4, s5, s6, s7, s8, s9, s10, s11, s12, s13, s14, s15, s16⟩
                   go_simp
                   with_reducible rfl
                  rotate_left
                  ·simp only [Act.put, qa, qb, qc, i64_w, i32_w]
                   rfl
                  refine pure_ (i := 50) (N := some 112) (v := ?_) (a' := ?_) #[true,true,true,true,true,true,true,true,true,true,true,true,true,true,true,true,true,true,true,true,true,true,true,true,true,true,true,true,true,true,true,true,true,true,true,true,true,true,true,true,true,true,true,true,true,true,true,true,true,true,true,false,false] rfl rfl (any_of HT_.out (by kernel_rfl)) (fun _ _ _ h => h) (Or.inl ⟨by rfl,?_⟩) ?_ ?_
                  rotate_left
                  ·intro w'
                   go_simp
                   with_reducible rfl
                  rotate_left
                  ·simp only [Act.put, qa, qb, qc, i64_w, i32_w]
                   rfl
                  refine pure_ (i := 51) (N := some 113) (v := ?_) (a' := ?_) #[true,true,true,true,true,true,true,true,true,true,true,true,true,true,true,true,true,true,true,true,true,true,true,true,true,true,true,true,true,true,true,true,true,true,true,true,true,true,true,true,true,true,true,true,true,true,true,true,true,true,true,true,false] rfl rfl (any_of HT_.out (by kernel_rfl)) (fun _ _ _ h => h) (Or.inl ⟨by rfl,?_⟩) ?_ ?_
                  rotate_left
                  ·intro w'
                   go_simp
                   with_reducible rfl
                  rotate_left
                  ·simp only [Act.put, qa, qb, qc, i64_w, i32_w]
                   rfl
                  refine pure_ (i := 52) (N := some 114) (v := ?_) (a' := ?_) #[true,true,true,true,true,true,true,true,true,true,true,true,true,true,true,true,true,true,true,true,true,true,true,true,true,true,true,true,true,true,true,true,true,true,true,true,true,true,true,true,true,true,true,true,true,true,true,true,true,true,true,true,true] rfl rfl (any_of HT_.out (by kernel_rfl)) (fun _ _ _ h => h) (Or.inl ⟨by rfl,?_⟩) ?_ ?_
                  rotate_left
                  ·intro w'
                   go_simp
                   with_reducible rfl
                  rotate_left
                  ·simp only [Act.put, qa, qb, qc, i64_w, i32_w]
                   rfl
                  refine done_ (done_of HT_.out (by kernel_rfl)) ?_
                  try go_wp2
                  go_meet
                  case rel => exact ⟨_,(decide (a2_0 < ((rd_T33 t119 x13_2).f0))),(by first|rfl|(simp;done)|(simp [*];done)),H',⟨by have := HJ11.out;have := HK2.out;first|omega|exact Nat.le_refl _⟩,⟨by (with_reducible repeat (first|apply Kd.R_alloc|apply Kd.R_drewN|apply Kd.R_drew));exact HO_8.out⟩,⟨by (with_reducible repeat (first|apply Kd.R_alloc|apply Kd.R_drewN|apply Kd.R_drew));exact HO_11.out⟩,⟨by (with_reducible repeat (first|refine blk_drewN ?_ _|refine blk_drew ?_|refine blk_alloc ?_ _));exact BK117.out⟩,⟨by repeat (first|(with_reducible first|exact HB.out|apply below_alloc|apply pw_below_drewN|apply below_drew1|refine below_set ?_ GE117.out)|exact HB.out)⟩⟩
                 ·rw [if_neg c49] at H
                  have c49b0 : (a2_3 == ((rd_T33 t119 x13_2).f1)) = false := beq_eq_false_iff_ne.mpr c49
                  have c49b1 : (a2_3 != ((rd_T33 t119 x13_2).f1)) = true := bne_iff_ne.mpr c49
                  have H' := Aside0.mk H
                  clear H
                  try go_wp2
                  (try (rw [drewN_self w42];generalize hq_ : World.drewN w42 _ = w42;have n0_ : Aside0 (Kd.R k33 33 w42 w.heap.size (fun k_ => some k_ ≠ (.slice (some ad139) t119.length co41 : Value).ownBlock) (.slice (some ad140) t135.length co43) t135) := ⟨by rw [← hq_];exact (by (with_reducible repeat (first|apply Kd.R_alloc|apply Kd.R_drewN|apply Kd.R_drew));exact HO_11.out)⟩;have n1_ : Aside0 (Kd.R k33 33 w42 w.heap.size (fun k_ => some k_ ≠ (.slice (some ad140) t135.length co43 : Value).ownBlock) (.slice (some ad139) t119.length co41) t119) := ⟨by rw [← hq_];exact (by (with_reducible repeat (first|apply Kd.R_alloc|apply Kd.R_drewN|apply Kd.R_drew));exact HO_8.out)⟩;have n2_ : Aside0 (w42.heap[gb117]? = some (.cells #[.int .i64 a2_0,.int .i64 a2_1,.int .i64 a2_2,.int .i64 a2_3,.slice a2_4.a a2_4.n a2_4.c] 27 (0,0))) := ⟨by rw [← hq_];exact (by (with_reducible repeat (first|refine blk_drewN ?_ _|refine blk_drew ?_|refine blk_alloc ?_ _));exact BK117.out)⟩;have n3_ : Aside0 (Below w.heap.size w w42) := ⟨by rw [← hq_];exact (by repeat (first|(with_reducible first|exact HB.out|apply below_alloc|apply pw_below_drewN|apply below_drew1|refine below_set ?_ GE117.out)|exact HB.out))⟩;clear HO_11 HO_8 BK117 HB hq_;have HO_11 := n0_;have HO_8 := n1_;have BK117 := n2_;have HB := n3_;clear n0_ n1_ n2_ n3_))
                  have n0_ := Aside0.mk (Kd.R_drew HO_8.out)
                  have n1_ := Aside0.mk (Kd.R_drew HO_11.out)
                  have n2_ := Aside0.mk (blk_drew BK117.out)
                  have n3_ := Aside0.mk (below_drew1 HB.out)
                  clear HO_8
                  clear HO_11
                  clear BK117
                  clear HB
                  have HO_8 := n0_
                  have HO_11 := n1_
                  have BK117 := n2_
                  have HB := n3_
                  clear n0_ n1_ n2_ n3_
                  have p141 : 0 ≤ (x13_2 : Int) := of_decide_eq_true (by first|(with_reducible assumption)|assumption)
                  have q141 : x13_2 < (t135.length : Int) := of_decide_eq_true (by first|(with_reducible assumption)|assumption)
                  obtain ⟨ad141, e141, hx141_0, hx141_1, hx141_2⟩ := at_T33 (Kd.R_reads' HO_11.out).2.2 x13_2 p141 q141
                  obtain rfl : ad140 = ad141 := (by injection e141)
                  replace p141 := eq_true p141
                  replace q141 := eq_true q141
                  have p142 : 0 ≤ (x13_2 : Int) := of_decide_eq_true (by first|(with_reducible assumption)|assumption)
                  have q142 : x13_2 < (t119.length : Int) := of_decide_eq_true (by first|(with_reducible assumption)|assumption)
                  obtain ⟨ad142, e142, hx142_0, hx142_1, hx142_2⟩ := at_T33 (Kd.R_reads' HO_8.out).2.2 x13_2 p142 q142
                  obtain rfl : ad139 = ad142 := (by injection e142)
                  replace p142 := eq_true p142
                  replace q142 := eq_true q142
                  have p143 : 0 ≤ (x13_2 : Int) := of_decide_eq_true (by first|(with_reducible assumption)|assumption)
                  have q143 : x13_2 < (t119.length : Int) := of_decide_eq_true (by first|(with_reducible assumption)|assumption)
                  obtain ⟨ad143, e143, hx143_0, hx143_1, hx143_2⟩ := at_T33 (Kd.R_reads' HO_8.out).2.2 x13_2 p143 q143
                  obtain rfl : ad139 = ad143 := (by injection e143)
                  replace p143 := eq_true p143
                  replace q143 := eq_true q143
                  refine start_ (n := 53) (S := fun w' => w'.cell? ⟨gb117,0,none⟩ = some (.int .i64 a2_0) ∧ w'.cell? ⟨gb117,1,none⟩ = some (.int .i64 a2_1) ∧ w'.cell? ⟨gb117,2,none⟩ = some (.int .i64 a2_2) ∧ w'.cell? ⟨gb117,3,none⟩ = some (.int .i64 a2_3) ∧ w'.cell? ⟨gb117,4,none⟩ = some (.slice a2_4.a a2_4.n a2_4.c) ∧ w'.cell? (ad140.add ((x13_2).toNat * 3)) = some (.int .i64 ((rd_T33 t135 x13_2).f0)) ∧ w'.cell? ⟨(ad140.add ((x13_2).toNat * 3)).block,(ad140.add ((x13_2).toNat * 3)).off + 1,none⟩ = some (.int .i64 ((rd_T33 t135 x13_2).f1)) ∧ w'.cell? ⟨(ad140.add ((x13_2).toNat * 3)).block,(ad140.add ((x13_2).toNat * 3)).off + 2,none⟩ = some (.int .i64 ((rd_T33 t135 x13_2).f2)) ∧ w'.cell? (ad139.add ((x13_2).toNat * 3)) = some (.int .i64 ((rd_T33 t119 x13_2).f0)) ∧ w'.cell? ⟨(ad139.add ((x13_2).toNat * 3)).block,(ad139.add ((x13_2).toNat * 3)).off + 1,none⟩ = some (.int .i64 ((rd_T33 t119 x13_2).f1)) ∧ w'.cell? ⟨(ad139.add ((x13_2).toNat * 3)).block,(ad139.add ((x13_2).toNat * 3)).off + 2,none⟩ = some (.int .i64 ((rd_T33 t119 x13_2).f2)) ∧ w'.cell? (ad139.add ((x13_2).toNat * 3)) = some (.int .i64 ((rd_T33 t119 x13_2).f0)) ∧ w'.cell? ⟨(ad139.add ((x13_2).toNat * 3)).block,(ad139.add ((x13_2).toNat * 3)).off + 1,none⟩ = some (.int .i64 ((rd_T33 t119 x13_2).f1)) ∧ w'.cell? ⟨(ad139.add ((x13_2).toNat * 3)).block,(ad139.add ((x13_2).toNat * 3)).off + 2,none⟩ = some (.int .i64 ((rd_T33 t119 x13_2).f2))) (ds := []) #[false,false,false,false,false,false,false,false,false,false,false,false,false,false,false,false,false,false,false,false,false,false,false,false,false,false,false,false,false,false,false,false,false,false,false,false,false,false,false,false,false,false,false,false,false,false,false,false,false,false,false,false,false] (by kernel_rfl) rfl rfl ⟨(blk_cell BK117.out 0).trans rfl,(blk_cell BK117.out 1).trans rfl,(blk_cell BK117.out 2).trans rfl,(blk_cell BK117.out 3).trans rfl,(blk_cell BK117.out 4).trans rfl,hx141_0,hx141_1,hx141_2,hx142_0,hx142_1,hx142_2,hx143_0,hx143_1,hx143_2⟩ (fun hHeld => ?_);refine with_tabW strakelaw18_ReplayMore.tab13 strakelaw18_ReplayMore.bits13 (fun HT_ HW_ => ?_)
                  generalize w42.drew = w51 at HO_8 HO_11 BK117 HB hx141_0 hx141_1 hx141_2 hx142_0 hx142_1 hx142_2 hx143_0 hx143_1 hx143_2 hHeld ⊢
                  refine pure_ (i := 0) (N := some 62) (v := ?_) (a' := ?_) #[true,false,false,false,false,false,false,false,false,false,false,false,false,false,false,false,false,false,false,false,false,false,false,false,false,false,false,false,false,false,false,false,false,false,false,false,false,false,false,false,false,false,false,false,false,false,false,false,false,false,false,false,false] rfl rfl (any_of HT_.out (by kernel_rfl)) (fun _ _ _ h => h) (Or.inl ⟨by rfl,?_⟩) ?_ ?_
                  rotate_left
                  ·intro w'
                   go_simp
                   with_reducible rfl
                  rotate_left
                  ·simp only [Act.put, qa, qb, qc, i64_w, i32_w]
                   rfl
                  refine pure_ (i := 1) (N := some 63) (v := ?_) (a' := ?_) #[true,true,false,false,false,false,false,false,false,false,false,false,false,false,false,false,false,false,false,false,false,false,false,false,false,false,false,false,false,false,false,false,false,false,false,false,false,false,false,false,false,false,false,false,false,false,false,false,false,false,false,false,false] rfl rfl (any_of HT_.out (by kernel_rfl)) (fun _ _ _ h => h) (Or.inl ⟨by rfl,?_⟩) ?_ ?_
                  rotate_left
                  ·intro w'
                   go_simp
                   with_reducible rfl
                  rotate_left
                  ·simp only [Act.put, qa, qb, qc, i64_w, i32_w]
                   rfl
                  refine pure_ (i := 3) (N := some 65) (v := ?_) (a' := ?_) #[true,true,false,true,false,false,false,false,false,false,false,false,false,false,false,false,false,false,false,false,false,false,false,false,false,false,false,false,false,false,false,false,false,false,false,false,false,false,false,false,false,false,false,false,false,false,false,false,false,false,false,false,false] rfl rfl (any_of HT_.out (by kernel_rfl)) (fun _ _ _ h => h) (Or.inl ⟨by rfl,?_⟩) ?_ ?_
                  rotate_left
                  ·intro w'
                   go_simp
                   with_reducible rfl
                  rotate_left
                  ·simp only [Act.put, qa, qb, qc, i64_w, i32_w]
                   rfl
                  refine take_ (i := 2) (N := some 64) (v := ?_) (a' := ?_) #[true,true,true,true,false,false,false,false,false,false,false,false,false,false,false,false,false,false,false,false,false,false,false,false,false,false,false,false,false,false,false,false,false,false,false,false,false,false,false,false,false,false,false,false,false,false,false,false,false,false,false,false,false] rfl rfl (take_ofW HT_.out HW_.out (by kernel_rfl)) (fun _ _ _ h => h) (Or.inl ⟨by rfl,?_⟩) hHeld ?_ ?_
                  rotate_left
                  ·rintro w' ⟨s0, s1, s2, s3, s4, s5, s6, s7, s8, s9, s10, s11, s12, s13⟩
                   go_simp
                   with_reducible rfl
                  rotate_left
                  ·simp only [Act.put, qa, qb, qc, i64_w, i32_w]
                   rfl
                  refine pure_ (i := 4) (N := some 66) (v := ?_) (a' := ?_) #[true,true,true,true,true,false,false,false,false,false,false,false,false,false,false,false,false,false,false,false,false,false,false,false,false,false,false,false,false,false,false,false,false,false,false,false,false,false,false,false,false,false,false,false,false,false,false,false,false,false,false,false,false] rfl rfl (any_of HT_.out (by kernel_rfl)) (fun _ _ _ h => h) (Or.inl ⟨by rfl,?_⟩) ?_ ?_
                  rotate_left
                  ·intro w'
                   go_simp
                   with_reducible rfl
                  rotate_left
                  ·simp only [Act.put, qa, qb, qc, i64_w, i32_w]
                   rfl
                  refine pure_ (i := 5) (N := some 67) (v := ?_) (a' := ?_) #[true,true,true,true,true,true,false,false,false,false,false,false,false,false,false,false,false,false,false,false,false,false,false,false,false,false,false,false,false,false,false,false,false,false,false,false,false,false,false,false,false,false,false,false,false,false,false,false,false,false,false,false,false] rfl rfl (any_of HT_.out (by kernel_rfl)) (fun _ _ _ h => h) (Or.inl ⟨by rfl,?_⟩) ?_ ?_
                  rotate_left
                  ·intro w'
                   go_simp
                   with_reducible rfl
                  rotate_left
                  ·simp only [Act.put, qa, qb, qc, i64_w, i32_w]
                   rfl
                  refine pure_ (i := 6) (N := some 68) (v := ?_) (a' := ?_) #[true,true,true,true,true,true,true,false,false,false,false,false,false,false,false,false,false,false,false,false,false,false,false,false,false,false,false,false,false,false,false,false,false,false,false,false,false,false,false,false,false,false,false,false,false,false,false,false,false,false,false,false,false] rfl rfl (any_of HT_.out (by kernel_rfl)) (fun _ _ _ h => h) (Or.inl ⟨by rfl,?_⟩) ?_ ?_
                  rotate_left
                  ·intro w'
                   go_simp
                   with_reducible rfl
                  rotate_left
                  ·simp only [Act.put, qa, qb, qc, i64_w, i32_w]
                   rfl
                  refine pure_ (i := 7) (N := some 69) (v := ?_) (a' := ?_) #[true,true,true,true,true,true,true,true,false,false,false,false,false,false,false,false,false,false,false,false,false,false,false,false,false,false,false,false,false,false,false,false,false,false,false,false,false,false,false,false,false,false,false,false,false,false,false,false,false,false,false,false,false] rfl rfl (any_of HT_.out (by kernel_rfl)) (fun _ _ _ h => h) (Or.inl ⟨by rfl,?_⟩) ?_ ?_
                  rotate_left
                  ·intro w'
                   go_simp
                   with_reducible rfl
                  rotate_left
                  ·simp only [Act.put, qa, qb, qc, i64_w, i32_w]
                   rfl
                  refine pure_ (i := 8) (N := some 70) (v := ?_) (a' := ?_) #[true,true,true,true,true,true,true,true,true,false,false,false,false,false,false,false,false,false,false,false,false,false,false,false,false,false,false,false,false,false,false,false,false,false,false,false,false,false,false,false,false,false,false,false,false,false,false,false,false,false,false,false,false] rfl rfl (any_of HT_.out (by kernel_rfl)) (fun _ _ _ h => h) (Or.inl ⟨by rfl,?_⟩) ?_ ?_
                  rotate_left
                  ·intro w'
                   go_simp
                   with_reducible rfl
                  rotate_left
                  ·simp only [Act.put, qa, qb, qc, i64_w, i32_w]
                   rfl
                  refine pure_ (i := 10) (N := some 72) (v := ?_) (a' := ?_) #[true,true,true,true,true,true,true,true,true,false,true,false,false,false,false,false,false,false,false,false,false,false,false,false,false,false,false,false,false,false,false,false,false,false,false,false,false,false,false,false,false,false,false,false,false,false,false,false,false,false,false,false,false] rfl rfl (any_of HT_.out (by kernel_rfl)) (fun _ _ _ h => h) (Or.inl ⟨by rfl,?_⟩) ?_ ?_
                  rotate_left
                  ·intro w'
                   go_simp
                   with_reducible rfl
                  rotate_left
                  ·simp only [Act.put, qa, qb, qc, i64_w, i32_w]
                   rfl
                  refine pure_ (i := 12) (N := some 74) (v := ?_) (a' := ?_) #[true,true,true,true,true,true,true,true,true,false,true,false,true,false,false,false,false,false,false,false,false,false,false,false,false,false,false,false,false,false,false,false,false,false,false,false,false,false,false,false,false,false,false,false,false,false,false,false,false,false,false,false,false] rfl rfl (any_of HT_.out (by kernel_rfl)) (fun _ _ _ h => h) (Or.inl ⟨by rfl,?_⟩) ?_ ?_
                  rotate_left
                  ·intro w'
                   go_simp
                   with_reducible rfl
                  rotate_left
                  ·simp only [Act.put, qa, qb, qc, i64_w, i32_w]
                   rfl
                  refine pure_ (i := 13) (N := some 75) (v := ?_) (a' := ?_) #[true,true,true,true,true,true,true,true,true,false,true,false,true,true,false,false,false,false,false,false,false,false,false,false,false,false,false,false,false,false,false,false,false,false,false,false,false,false,false,false,false,false,false,false,false,false,false,false,false,false,false,false,false] rfl rfl (any_of HT_.out (by kernel_rfl)) (fun _ _ _ h => h) (Or.inl ⟨by rfl,?_⟩) ?_ ?_
                  rotate_left
                  ·intro w'
                   go_simp
                   with_reducible rfl
                  rotate_left
                  ·simp only [Act.put, qa, qb, qc, i64_w, i32_w]
                   rfl
                  refine pure_ (i := 15) (N := some 77) (v := ?_) (a' := ?_) #[true,true,true,true,true,true,true,true,true,false,true,false,true,true,false,true,false,false,false,false,false,false,false,false,false,false,false,false,false,false,false,false,false,false,false,false,false,false,false,false,false,false,false,false,false,false,false,false,false,false,false,false,false] rfl rfl (any_of HT_.out (by kernel_rfl)) (fun _ _ _ h => h) (Or.inl ⟨by rfl,?_⟩) ?_ ?_
                  rotate_left
                  ·intro w'
                   go_simp
                   with_reducible rfl
                  rotate_left
                  ·simp only [Act.put, qa, qb, qc, i64_w, i32_w]
                   rfl
                  refine pure_ (i := 16) (N := some 78) (v := ?_) (a' := ?_) #[true,true,true,true,true,true,true,true,true,false,true,false,true,true,false,true,true,false,false,false,false,false,false,false,false,false,false,false,false,false,false,false,false,false,false,false,false,false,false,false,false,false,false,false,false,false,false,false,false,false,false,false,false] rfl rfl (any_of HT_.out (by kernel_rfl)) (fun _ _ _ h => h) (Or.inl ⟨by rfl,?_⟩) ?_ ?_
                  rotate_left
                  ·intro w'
                   go_simp
                   with_reducible rfl
                  rotate_left
                  ·simp only [Act.put, qa, qb, qc, i64_w, i32_w]
                   rfl
                  refine take_ (i := 9) (N := some 71) (v := ?_) (a' := ?_) #[true,true,true,true,true,true,true,true,true,true,true,false,true,true,false,true,true,false,false,false,false,false,false,false,false,false,false,false,false,false,false,false,false,false,false,false,false,false,false,false,false,false,false,false,false,false,false,false,false,false,false,false,false] rfl rfl (take_ofW HT_.out HW_.out (by kernel_rfl)) (fun _ _ _ h => h) (Or.inl ⟨by rfl,?_⟩) hHeld ?_ ?_
                  rotate_left
                  ·rintro w' ⟨s0, s1, s2, s3, s4, s5, s6, s7, s8, s9, s10, s11, s12, s13⟩
                   go_simp
                   with_reducible rfl
                  rotate_left
                  ·simp only [Act.put, qa, qb, qc, i64_w, i32_w]
                   rfl
                  refine take_ (i := 11) (N := some 73) (v := ?_) (a' := ?_) #[true,true,true,true,true,true,true,true,true,true,true,true,true,true,false,true,true,false,false,false,false,false,false,false,false,false,false,false,false,false,false,false,false,false,false,false,false,false,false,false,false,false,false,false,false,false,false,false,false,false,false,false,false] rfl rfl (take_ofW HT_.out HW_.out (by kernel_rfl)) (fun _ _ _ h => h) (Or.inl ⟨by rfl,?_⟩) hHeld ?_ ?_
                  rotate_left
                  ·rintro w' ⟨s0, s1, s2, s3, s4, s5, s6, s7, s8, s9, s10, s11, s12, s13⟩
                   go_simp
                   with_reducible rfl
                  rotate_left
                  ·simp only [Act.put, qa, qb, qc, i64_w, i32_w]
                   rfl
                  refine take_ (i := 14) (N := some 76) (v := ?_) (a' := ?_) #[true,true,true,true,true,true,true,true,true,true,true,true,true,true,true,true,true,false,false,false,false,false,false,false,false,false,false,false,false,false,false,false,false,false,false,false,false,false,false,false,false,false,false,false,false,false,false,false,false,false,false,false,false] rfl rfl (take_ofW HT_.out HW_.out (by kernel_rfl)) (fun _ _ _ h => h) (Or.inl ⟨by rfl,?_⟩) hHeld ?_ ?_
                  rotate_left
                  ·rintro w' ⟨s0, s1, s2, s3, s4, s5, s6, s7, s8, s9, s10, s11, s12, s13⟩
                   go_simp
                   with_reducible rfl
                  rotate_left
                  ·simp only [Act.put, qa, qb, qc, i64_w, i32_w]
                   rfl
                  refine take_ (i := 17) (N := some 79) (v := ?_) (a' := ?_) #[true,true,true,true,true,true,true,true,true,true,true,true,true,true,true,true,true,true,false,false,false,false,false,false,false,false,false,false,false,false,false,false,false,false,false,false,false,false,false,false,false,false,false,false,false,false,false,false,false,false,false,false,false] rfl rfl (take_ofW HT_.out HW_.out (by kernel_rfl)) (fun _ _ _ h => h) (Or.inl ⟨by rfl,?_⟩) hHeld ?_ ?_
                  rotate_left
                  ·rintro w' ⟨s0, s1, s2, s3, s4, s5, s6, s7, s8, s9, s10, s11, s12, s13⟩
                   go_simp
                   with_reducible rfl
                  rotate_left
                  ·simp only [Act.put, qa, qb, qc, i64_w, i32_w]
                   rfl
                  refine pure_ (i := 18) (N := some 80) (v := ?_) (a' := ?_) #[true,true,true,true,true,true,true,true,true,true,true,true,true,true,true,true,true,true,true,false,false,false,false,false,false,false,false,false,false,false,false,false,false,false,false,false,false,false,false,false,false,false,false,false,false,false,false,false,false,false,false,false,false] rfl rfl (any_of HT_.out (by kernel_rfl)) (fun _ _ _ h => h) (Or.inl ⟨by rfl,?_⟩) ?_ ?_
                  rotate_left
                  ·intro w'
                   go_simp
                   with_reducible rfl
                  rotate_left
                  ·simp only [Act.put, qa, qb, qc, i64_w, i32_w]
                   rfl
                  refine pure_ (i := 19) (N := some 81) (v := ?_) (a' := ?_) #[true,true,true,true,true,true,true,true,true,true,true,true,true,true,true,true,true,true,true,true,false,false,false,false,false,false,false,false,false,false,false,false,false,false,false,false,false,false,false,false,false,false,false,false,false,false,false,false,false,false,false,false,false] rfl rfl (any_of HT_.out (by kernel_rfl)) (fun _ _ _ h => h) (Or.inl ⟨by rfl,?_⟩) ?_ ?_
                  rotate_left
                  ·intro w'
                   go_simp
                   with_reducible rfl
                  rotate_left
                  ·simp only [Act.put, qa, qb, qc, i64_w, i32_w]
                   rfl
                  refine pure_ (i := 20) (N := some 82) (v := ?_) (a' := ?_) #[true,true,true,true,true,true,true,true,true,true,true,true,true,true,true,true,true,true,true,true,true,false,false,false,false,false,false,false,false,false,false,false,false,false,false,false,false,false,false,false,false,false,false,false,false,false,false,false,false,false,false,false,false] rfl rfl (any_of HT_.out (by kernel_rfl)) (fun _ _ _ h => h) (Or.inl ⟨by rfl,?_⟩) ?_ ?_
                  rotate_left
                  ·intro w'
                   go_simp
                   with_reducible rfl
                  rotate_left
                  ·simp only [Act.put, qa, qb, qc, i64_w, i32_w]
                   rfl
                  refine pure_ (i := 21) (N := some 83) (v := ?_) (a' := ?_) #[true,true,true,true,true,true,true,true,true,true,true,true,true,true,true,true,true,true,true,true,true,true,false,false,false,false,false,false,false,false,false,false,false,false,false,false,false,false,false,false,false,false,false,false,false,false,false,false,false,false,false,false,false] rfl rfl (any_of HT_.out (by kernel_rfl)) (fun _ _ _ h => h) (Or.inl ⟨by rfl,?_⟩) ?_ ?_
                  rotate_left
                  ·intro w'
                   go_simp
                   with_reducible rfl
                  rotate_left
                  ·simp only [Act.put, qa, qb, qc, i64_w, i32_w]
                   rfl
                  refine pure_ (i := 22) (N := some 84) (v := ?_) (a' := ?_) #[true,true,true,true,true,true,true,true,true,true,true,true,true,true,true,true,true,true,true,true,true,true,true,false,false,false,false,false,false,false,false,false,false,false,false,false,false,false,false,false,false,false,false,false,false,false,false,false,false,false,false,false,false] rfl rfl (any_of HT_.out (by kernel_rfl)) (fun _ _ _ h => h) (Or.inl ⟨by rfl,?_⟩) ?_ ?_
                  rotate_left
                  ·intro w'
                   go_simp
                   with_reducible rfl
                  rotate_left
                  ·simp only [Act.put, qa, qb, qc, i64_w, i32_w]
                   rfl
                  refine pure_ (i := 23) (N := some 85) (v := ?_) (a' := ?_) #[true,true,true,true,true,true,true,true,true,true,true,true,true,true,true,true,true,true,true,true,true,true,true,true,false,false,false,false,false,false,false,false,false,false,false,false,false,false,false,false,false,false,false,false,false,false,false,false,false,false,false,false,false] rfl rfl (any_of HT_.out (by kernel_rfl)) (fun _ _ _ h => h) (Or.inl ⟨by rfl,?_⟩) ?_ ?_
                  rotate_left
                  ·intro w'
                   go_simp
                   with_reducible rfl
                  rotate_left
                  ·simp only [Act.put, qa, qb, qc, i64_w, i32_w]
                   rfl
                  refine pure_ (i := 25) (N := some 87) (v := ?_) (a' := ?_) #[true,true,true,true,true,true,true,true,true,true,true,true,true,true,true,true,true,true,true,true,true,true,true,true,false,true,false,false,false,false,false,false,false,false,false,false,false,false,false,false,false,false,false,false,false,false,false,false,false,false,false,false,false] rfl rfl (any_of HT_.out (by kernel_rfl)) (fun _ _ _ h => h) (Or.inl ⟨by rfl,?_⟩) ?_ ?_
                  rotate_left
                  ·intro w'
                   go_simp
                   with_reducible rfl
                  rotate_left
                  ·simp only [Act.put, qa, qb, qc, i64_w, i32_w]
                   rfl
                  refine pure_ (i := 26) (N := some 88) (v := ?_) (a' := ?_) #[true,true,true,true,true,true,true,true,true,true,true,true,true,true,true,true,true,true,true,true,true,true,true,true,false,true,true,false,false,false,false,false,false,false,false,false,false,false,false,false,false,false,false,false,false,false,false,false,false,false,false,false,false] rfl rfl (any_of HT_.out (by kernel_rfl)) (fun _ _ _ h => h) (Or.inl ⟨by rfl,?_⟩) ?_ ?_
                  rotate_left
                  ·intro w'
                   go_simp
                   with_reducible rfl
                  rotate_left
                  ·simp only [Act.put, qa, qb, qc, i64_w, i32_w]
                   rfl
                  refine pure_ (i := 27) (N := some 89) (v := ?_) (a' := ?_) #[true,true,true,true,true,true,true,true,true,true,true,true,true,true,true,true,true,true,true,true,true,true,true,true,false,true,true,true,false,false,false,false,false,false,false,false,false,false,false,false,false,false,false,false,false,false,false,false,false,false,false,false,false] rfl rfl (any_of HT_.out (by kernel_rfl)) (fun _ _ _ h => h) (Or.inl ⟨by rfl,?_⟩) ?_ ?_
                  rotate_left
                  ·intro w'
                   go_simp
                   with_reducible rfl
                  rotate_left
                  ·simp only [Act.put, qa, qb, qc, i64_w, i32_w]
                   rfl
                  refine pure_ (i := 28) (N := some 90) (v := ?_) (a' := ?_) #[true,true,true,true,true,true,true,true,true,true,true,true,true,true,true,true,true,true,true,true,true,true,true,true,false,true,true,true,true,false,false,false,false,false,false,false,false,false,false,false,false,false,false,false,false,false,false,false,false,false,false,false,false] rfl rfl (any_of HT_.out (by kernel_rfl)) (fun _ _ _ h => h) (Or.inl ⟨by rfl,?_⟩) ?_ ?_
                  rotate_left
                  ·intro w'
                   go_simp
                   with_reducible rfl
                  rotate_left
                  ·simp only [Act.put, qa, qb, qc, i64_w, i32_w]
                   rfl
                  refine take_ (i := 24) (N := some 86) (v := ?_) (a' := ?_) #[true,true,true,true,true,true,true,true,true,true,true,true,true,true,true,true,true,true,true,true,true,true,true,true,true,true,true,true,true,false,false,false,false,false,false,false,false,false,false,false,false,false,false,false,false,false,false,false,false,false,false,false,false] rfl rfl (take_ofW HT_.out HW_.out (by kernel_rfl)) (fun _ _ _ h => h) (Or.inl ⟨by rfl,?_⟩) hHeld ?_ ?_
                  rotate_left
                  ·rintro w' ⟨s0, s1, s2, s3, s4, s5, s6, s7, s8, s9, s10, s11, s12, s13⟩
                   go_simp
                   with_reducible rfl
                  rotate_left
                  ·simp only [Act.put, qa, qb, qc, i64_w, i32_w]
                   rfl
                  refine take_ (i := 29) (N := some 91) (v := ?_) (a' := ?_) #[true,true,true,true,true,true,true,true,true,true,true,true,true,true,true,true,true,true,true,true,true,true,true,true,true,true,true,true,true,true,false,false,false,false,false,false,false,false,false,false,false,false,false,false,false,false,false,false,false,false,false,false,false] rfl rfl (take_ofW HT_.out HW_.out (by kernel_rfl)) (fun _ _ _ h => h) (Or.inl ⟨by rfl,?_⟩) hHeld ?_ ?_
                  rotate_left
                  ·rintro w' ⟨s0, s1, s2, s3, s4, s5, s6, s7, s8, s9, s10, s11, s12, s13⟩
                   go_simp
                   with_reducible rfl
                  rotate_left
                  ·simp only [Act.put, qa, qb, qc, i64_w, i32_w]
                   rfl
                  refine pure_ (i := 30) (N := some 92) (v := ?_) (a' := ?_) #[true,true,true,true,true,true,true,true,true,true,true,true,true,true,true,true,true,true,true,true,true,true,true,true,true,true,true,true,true,true,true,false,false,false,false,false,false,false,false,false,false,false,false,false,false,false,false,false,false,false,false,false,false] rfl rfl (any_of HT_.out (by kernel_rfl)) (fun _ _ _ h => h) (Or.inl ⟨by rfl,?_⟩) ?_ ?_
                  rotate_left
                  ·intro w'
                   go_simp
                   with_reducible rfl
                  rotate_left
                  ·simp only [Act.put, qa, qb, qc, i64_w, i32_w]
                   rfl
                  refine pure_ (i := 31) (N := some 93) (v := ?_) (a' := ?_) #[true,true,true,true,true,true,true,true,true,true,true,true,true,true,true,true,true,true,true,true,true,true,true,true,true,true,true,true,true,true,true,true,false,false,false,false,false,false,false,false,false,false,false,false,false,false,false,false,false,false,false,false,false] rfl rfl (any_of HT_.out (by kernel_rfl)) (fun _ _ _ h => h) (Or.inl ⟨by rfl,?_⟩) ?_ ?_
                  rotate_left
                  ·intro w'
                   go_simp
                   with_reducible rfl
                  rotate_left
                  ·simp only [Act.put, qa, qb, qc, i64_w, i32_w]
                   rfl
                  refine pure_ (i := 32) (N := some 94) (v := ?_) (a' := ?_) #[true,true,true,true,true,true,true,true,true,true,true,true,true,true,true,true,true,true,true,true,true,true,true,true,true,true,true,true,true,true,true,true,true,false,false,false,false,false,false,false,false,false,false,false,false,false,false,false,false,false,false,false,false] rfl rfl (any_of HT_.out (by kernel_rfl)) (fun _ _ _ h => h) (Or.inl ⟨by rfl,?_⟩) ?_ ?_
                  rotate_left
                  ·intro w'
                   go_simp
                   with_reducible rfl
                  rotate_left
                  ·simp only [Act.put, qa, qb, qc, i64_w, i32_w]
                   rfl
                  refine pure_ (i := 33) (N := some 95) (v := ?_) (a' := ?_) #[true,true,true,true,true,true,true,true,true,true,true,true,true,true,true,true,true,true,true,true,true,true,true,true,true,true,true,true,true,true,true,true,true,true,false,false,false,false,false,false,false,false,false,false,false,false,false,false,false,false,false,false,false] rfl rfl (any_of HT_.out (by kernel_rfl)) (fun _ _ _ h => h) (Or.inl ⟨by rfl,?_⟩) ?_ ?_
                  rotate_left
                  ·intro w'
                   go_simp
                   with_reducible rfl
                  rotate_left
                  ·simp only [Act.put, qa, qb, qc, i64_w, i32_w]
                   rfl
                  refine pure_ (i := 34) (N := some 96) (v := ?_) (a' := ?_) #[true,true,true,true,true,true,true,true,true,true,true,true,true,true,true,true,true,true,true,true,true,true,true,true,true,true,true,true,true,true,true,true,true,true,true,false,false,false,false,false,false,false,false,false,false,false,false,false,false,false,false,false,false] rfl rfl (any_of HT_.out (by kernel_rfl)) (fun _ _ _ h => h) (Or.inl ⟨by rfl,?_⟩) ?_ ?_
                  rotate_left
                  ·intro w'
                   go_simp
                   with_reducible rfl
                  rotate_left
                  ·simp only [Act.put, qa, qb, qc, i64_w, i32_w]
                   rfl
                  refine pure_ (i := 36) (N := some 98) (v := ?_) (a' := ?_) #[true,true,true,true,true,true,true,true,true,true,true,true,true,true,true,true,true,true,true,true,true,true,true,true,true,true,true,true,true,true,true,true,true,true,true,false,true,false,false,false,false,false,false,false,false,false,false,false,false,false,false,false,false] rfl rfl (any_of HT_.out (by kernel_rfl)) (fun _ _ _ h => h) (Or.inl ⟨by rfl,?_⟩) ?_ ?_
                  rotate_left
                  ·intro w'
                   go_simp
                   with_reducible rfl
                  rotate_left
                  ·simp only [Act.put, qa, qb, qc, i64_w, i32_w]
                   rfl
                  refine pure_ (i := 37) (N := some 99) (v := ?_) (a' := ?_) #[true,true,true,true,true,true,true,true,true,true,true,true,true,true,true,true,true,true,true,true,true,true,true,true,true,true,true,true,true,true,true,true,true,true,true,false,true,true,false,false,false,false,false,false,false,false,false,false,false,false,false,false,false] rfl rfl (any_of HT_.out (by kernel_rfl)) (fun _ _ _ h => h) (Or.inl ⟨by rfl,?_⟩) ?_ ?_
                  rotate_left
                  ·intro w'
                   go_simp
                   with_reducible rfl
                  rotate_left
                  ·simp only [Act.put, qa, qb, qc, i64_w, i32_w]
                   rfl
                  refine pure_ (i := 38) (N := some 100) (v := ?_) (a' := ?_) #[true,true,true,true,true,true,true,true,true,true,true,true,true,true,true,true,true,true,true,true,true,true,true,true,true,true,true,true,true,true,true,true,true,true,true,false,true,true,true,false,false,false,false,false,false,false,false,false,false,false,false,false,false] rfl rfl (any_of HT_.out (by kernel_rfl)) (fun _ _ _ h => h) (Or.inl ⟨by rfl,?_⟩) ?_ ?_
                  rotate_left
                  ·intro w'
                   go_simp
                   with_reducible rfl
                  rotate_left
                  ·simp only [Act.put, qa, qb, qc, i64_w, i32_w]
                   rfl
                  refine pure_ (i := 39) (N := some 101) (v := ?_) (a' := ?_) #[true,true,true,true,true,true,true,true,true,true,true,true,true,true,true,true,true,true,true,true,true,true,true,true,true,true,true,true,true,true,true,true,true,true,true,false,true,true,true,true,false,false,false,false,false,false,false,false,false,false,false,false,false] rfl rfl (any_of HT_.out (by kernel_rfl)) (fun _ _ _ h => h) (Or.inl ⟨by rfl,?_⟩) ?_ ?_
                  rotate_left
                  ·intro w'
                   go_simp
                   with_reducible rfl
                  rotate_left
                  ·simp only [Act.put, qa, qb, qc, i64_w, i32_w]
                   rfl
                  refine take_ (i := 35) (N := some 97) (v := ?_) (a' := ?_) #[true,true,true,true,true,true,true,true,true,true,true,true,true,true,true,true,true,true,true,true,true,true,true,true,true,true,true,true,true,true,true,true,true,true,true,true,true,true,true,true,false,false,false,false,false,false,false,false,false,false,false,false,false] rfl rfl (take_ofW HT_.out HW_.out (by kernel_rfl)) (fun _ _ _ h => h) (Or.inl ⟨by rfl,?_⟩) hHeld ?_ ?_
                  rotate_left
                  ·rintro w' ⟨s0, s1, s2, s3, s4, s5, s6, s7, s8, s9, s10, s11, s12, s13⟩
                   go_simp
                   with_reducible rfl
                  rotate_left
                  ·simp only [Act.put, qa, qb, qc, i64_w, i32_w]
                   rfl
                  refine take_ (i := 40) (N := some 102) (v := ?_) (a' := ?_) #[true,true,true,true,true,true,true,true,true,true,true,true,true,true,true,true,true,true,true,true,true,true,true,true,true,true,true,true,true,true,true,true,true,true,true,true,true,true,true,true,true,false,false,false,false,false,false,false,false,false,false,false,false] rfl rfl (take_ofW HT_.out HW_.out (by kernel_rfl)) (fun _ _ _ h => h) (Or.inl ⟨by rfl,?_⟩) hHeld ?_ ?_
                  rotate_left
                  ·rintro w' ⟨s0, s1, s2, s3, s4, s5, s6, s7, s8, s9, s10, s11, s12, s13⟩
                   go_simp
                   with_reducible rfl
                  rotate_left
                  ·simp only [Act.put, qa, qb, qc, i64_w, i32_w]
                   rfl
                  refine pure_ (i := 41) (N := some 103) (v := ?_) (a' := ?_) #[true,true,true,true,true,true,true,true,true,true,true,true,true,true,true,true,true,true,true,true,true,true,true,true,true,true,true,true,true,true,true,true,true,true,true,true,true,true,true,true,true,true,false,false,false,false,false,false,false,false,false,false,false] rfl rfl (any_of HT_.out (by kernel_rfl)) (fun _ _ _ h => h) (Or.inl ⟨by rfl,?_⟩) ?_ ?_
                  rotate_left
                  ·intro w'
                   go_simp
                   with_reducible rfl
                  rotate_left
                  ·simp only [Act.put, qa, qb, qc, i64_w, i32_w]
                   rfl
                  refine pure_ (i := 42) (N := some 104) (v := ?_) (a' := ?_) #[true,true,true,true,true,true,true,true,true,true,true,true,true,true,true,true,true,true,true,true,true,true,true,true,true,true,true,true,true,true,true,true,true,true,true,true,true,true,true,true,true,true,true,false,false,false,false,false,false,false,false,false,false] rfl rfl (any_of HT_.out (by kernel_rfl)) (fun _ _ _ h => h) (Or.inl ⟨by rfl,?_⟩) ?_ ?_
                  rotate_left
                  ·intro w'
                   go_simp
                   with_reducible rfl
                  rotate_left
                  ·simp only [Act.put, qa, qb, qc, i64_w, i32_w]
                   rfl
                  refine pure_ (i := 43) (N := some 105) (v := undef) (a' := ?_) #[true,true,true,true,true,true,true,true,true,true,true,true,true,true,true,true,true,true,true,true,true,true,true,true,true,true,true,true,true,true,true,true,true,true,true,true,true,true,true,true,true,true,true,true,false,false,false,false,false,false,false,false,false] rfl rfl (any_of HT_.out (by kernel_rfl)) (fun _ _ _ h => h) (Or.inr ⟨by rfl,rfl⟩) ?_ ?_
                  rotate_left
                  ·simp only [Act.put, qa, qb, qc, i64_w, i32_w]
                   rfl
                  refine pure_ (i := 44) (N := some 106) (v := undef) (a' := ?_) #[true,true,true,true,true,true,true,true,true,true,true,true,true,true,true,true,true,true,true,true,true,true,true,true,true,true,true,true,true,true,true,true,true,true,true,true,true,true,true,true,true,true,true,true,true,false,false,false,false,false,false,false,false] rfl rfl (any_of HT_.out (by kernel_rfl)) (fun _ _ _ h => h) (Or.inr ⟨by rfl,rfl⟩) ?_ ?_
                  rotate_left
                  ·simp only [Act.put, qa, qb, qc, i64_w, i32_w]
                   rfl
                  refine pure_ (i := 45) (N := some 107) (v := undef) (a' := ?_) #[true,true,true,true,true,true,true,true,true,true,true,true,true,true,true,true,true,true,true,true,true,true,true,true,true,true,true,true,true,true,true,true,true,true,true,true,true,true,true,true,true,true,true,true,true,true,false,false,false,false,false,false,false] rfl rfl (any_of HT_.out (by kernel_rfl)) (fun _ _ _ h => h) (Or.inr ⟨by rfl,rfl⟩) ?_ ?_
                  rotate_left
                  ·simp only [Act.put, qa, qb, qc, i64_w, i32_w]
                   rfl
                  refine pure_ (i := 46) (N := some 108) (v := undef) (a' := ?_) #[true,true,true,true,true,true,true,true,true,true,true,true,true,true,true,true,true,true,true,true,true,true,true,true,true,true,true,true,true,true,true,true,true,true,true,true,true,true,true,true,true,true,true,true,true,true,true,false,false,false,false,false,false] rfl rfl (any_of HT_.out (by kernel_rfl)) (fun _ _ _ h => h) (Or.inr ⟨by rfl,rfl⟩) ?_ ?_
                  rotate_left
                  ·simp only [Act.put, qa, qb, qc, i64_w, i32_w]
                   rfl
                  refine pure_ (i := 47) (N := some 109) (v := undef) (a' := ?_) #[true,true,true,true,true,true,true,true,true,true,true,true,true,true,true,true,true,true,true,true,true,true,true,true,true,true,true,true,true,true,true,true,true,true,true,true,true,true,true,true,true,true,true,true,true,true,true,true,false,false,false,false,false] rfl rfl (any_of HT_.out (by kernel_rfl)) (fun _ _ _ h => h) (Or.inr ⟨by rfl,rfl⟩) ?_ ?_
                  rotate_left
                  ·simp only [Act.put, qa, qb, qc, i64_w, i32_w]
                   rfl
                  refine pure_ (i := 48) (N := some 110) (v := undef) (a' := ?_) #[true,true,true,true,true,true,true,true,true,true,true,true,true,true,true,true,true,true,true,true,true,true,true,true,true,true,true,true,true,true,true,true,true,true,true,true,true,true,true,true,true,true,true,true,true,true,true,true,true,false,false,false,false] rfl rfl (any_of HT_.out (by kernel_rfl)) (fun _ _ _ h => h) (Or.inr ⟨by rfl,rfl⟩) ?_ ?_
                  rotate_left
                  ·simp only [Act.put, qa, qb, qc, i64_w, i32_w]
                   rfl
                  refine pure_ (i := 49) (N := some 111) (v := undef) (a' := ?_) #[true,true,true,true,true,true,true,true,true,true,true,true,true,true,true,true,true,true,true,true,true,true,true,true,true,true,true,true,true,true,true,true,true,true,true,true,true,true,true,true,true,true,true,true,true,true,true,true,true,true,false,false,false] rfl rfl (any_of HT_.out (by kernel_rfl)) (fun _ _ _ h => h) (Or.inr ⟨by rfl,rfl⟩) ?_ ?_
                  rotate_left
                  ·simp only [Act.put, qa, qb, qc, i64_w, i32_w]
                   rfl
                  refine pure_ (i := 50) (N := some 112) (v := undef) (a' := ?_) #[true,true,true,true,true,true,true,true,true,true,true,true,true,true,true,true,true,true,true,true,true,true,true,true,true,true,true,true,true,true,true,true,true,true,true,true,true,true,true,true,true,true,true,true,true,true,true,true,true,true,true,false,false] rfl rfl (any_of HT_.out (by kernel_rfl)) (fun _ _ _ h => h) (Or.inr ⟨by rfl,rfl⟩) ?_ ?_
                  rotate_left
                  ·simp only [Act.put, qa, qb, qc, i64_w, i32_w]
                   rfl
                  refine pure_ (i := 51) (N := some 113) (v := ?_) (a' := ?_) #[true,true,true,true,true,true,true,true,true,true,true,true,true,true,true,true,true,true,true,true,true,true,true,true,true,true,true,true,true,true,true,true,true,true,true,true,true,true,true,true,true,true,true,true,true,true,true,true,true,true,true,true,false] rfl rfl (any_of HT_.out (by kernel_rfl)) (fun _ _ _ h => h) (Or.inl ⟨by rfl,?_⟩) ?_ ?_
                  rotate_left
                  ·intro w'
                   go_simp
                   with_reducible rfl
                  rotate_left
                  ·simp only [Act.put, qa, qb, qc, i64_w, i32_w]
                   rfl
                  refine pure_ (i := 52) (N := some 114) (v := ?_) (a' := ?_) #[true,true,true,true,true,true,true,true,true,true,true,true,true,true,true,true,true,true,true,true,true,true,true,true,true,true,true,true,true,true,true,true,true,true,true,true,true,true,true,true,true,true,true,true,true,true,true,true,true,true,true,true,true] rfl rfl (any_of HT_.out (by kernel_rfl)) (fun _ _ _ h => h) (Or.inl ⟨by rfl,?_⟩) ?_ ?_
                  rotate_left
                  ·intro w'
                   go_simp
                   with_reducible rfl
                  rotate_left
                  ·simp only [Act.put, qa, qb, qc, i64_w, i32_w]
                   rfl
                  refine done_ (done_of HT_.out (by kernel_rfl)) ?_
                  try go_wp2
                  go_meet
                  case rel => exact ⟨_,(false),(by first|rfl|(simp;done)|(simp [*];done)),H',⟨by have := HJ11.out;have := HK2.out;first|omega|exact Nat.le_refl _⟩,⟨by (with_reducible repeat (first|apply Kd.R_alloc|apply Kd.R_drewN|apply Kd.R_drew));exact HO_8.out⟩,⟨by (with_reducible repeat (first|apply Kd.R_alloc|apply Kd.R_drewN|apply Kd.R_drew));exact HO_11.out⟩,⟨by (with_reducible repeat (first|refine blk_drewN ?_ _|refine blk_drew ?_|refine blk_alloc ?_ _));exact BK117.out⟩,⟨by repeat (first|(with_reducible first|exact HB.out|apply below_alloc|apply pw_below_drewN|apply below_drew1|refine below_set ?_ GE117.out)|exact HB.out)⟩⟩
              ·rw [if_neg c44] at H
               have c44b0 : (a2_2 == x13_2) = false := beq_eq_false_iff_ne.mpr c44
               have c44b1 : (a2_2 != x13_2) = true := bne_iff_ne.mpr c44
               (first | rw [c44b0] | (simp only [i64_w, i32_w]; rw [c44b0]) | skip)
               have H' := Aside0.mk H
               clear H
               try go_wp2
               (try (rw [drewN_self w42];generalize hq_ : World.drewN w42 _ = w42;have n0_ : Aside0 (Kd.R k33 33 w42 w.heap.size (fun k_ => some k_ ≠ (.slice (some ad139) t119.length co41 : Value).ownBlock) (.slice (some ad140) t135.length co43) t135) := ⟨by rw [← hq_];exact (by (with_reducible repeat (first|apply Kd.R_alloc|apply Kd.R_drewN|apply Kd.R_drew));exact HO_11.out)⟩;have n1_ : Aside0 (Kd.R k33 33 w42 w.heap.size (fun k_ => some k_ ≠ (.slice (some ad140) t135.length co43 : Value).ownBlock) (.slice (some ad139) t119.length co41) t119) := ⟨by rw [← hq_];exact (by (with_reducible repeat (first|apply Kd.R_alloc|apply Kd.R_drewN|apply Kd.R_drew));exact HO_8.out)⟩;have n2_ : Aside0 (w42.heap[gb117]? = some (.cells #[.int .i64 a2_0,.int .i64 a2_1,.int .i64 a2_2,.int .i64 a2_3,.slice a2_4.a a2_4.n a2_4.c] 27 (0,0))) := ⟨by rw [← hq_];exact (by (with_reducible repeat (first|refine blk_drewN ?_ _|refine blk_drew ?_|refine blk_alloc ?_ _));exact BK117.out)⟩;have n3_ : Aside0 (Below w.heap.size w w42) := ⟨by rw [← hq_];exact (by repeat (first|(with_reducible first|exact HB.out|apply below_alloc|apply pw_below_drewN|apply below_drew1|refine below_set ?_ GE117.out)|exact HB.out))⟩;clear HO_11 HO_8 BK117 HB hq_;have HO_11 := n0_;have HO_8 := n1_;have BK117 := n2_;have HB := n3_;clear n0_ n1_ n2_ n3_))
               have n0_ := Aside0.mk (Kd.R_drew HO_8.out)
               have n1_ := Aside0.mk (Kd.R_drew HO_11.out)
               have n2_ := Aside0.mk (blk_drew BK117.out)
               have n3_ := Aside0.mk (below_drew1 HB.out)
               clear HO_8
               clear HO_11
               clear BK117
               clear HB
               have HO_8 := n0_
               have HO_11 := n1_
               have BK117 := n2_
               have HB := n3_
               clear n0_ n1_ n2_ n3_
               refine start_ (n := 53) (S := fun w' => w'.cell? ⟨gb117,0,none⟩ = some (.int .i64 a2_0) ∧ w'.cell? ⟨gb117,1,none⟩ = some (.int .i64 a2_1) ∧ w'.cell? ⟨gb117,2,none⟩ = some (.int .i64 a2_2) ∧ w'.cell? ⟨gb117,3,none⟩ = some (.int .i64 a2_3) ∧ w'.cell? ⟨gb117,4,none⟩ = some (.slice a2_4.a a2_4.n a2_4.c)) (ds := []) #[false,false,false,false,false,false,false,false,false,false,false,false,false,false,false,false,false,false,false,false,false,false,false,false,false,false,false,false,false,false,false,false,false,false,false,false,false,false,false,false,false,false,false,false,false,false,false,false,false,false,false,false,false] (by kernel_rfl) rfl rfl ⟨(blk_cell BK117.out 0).trans rfl,(blk_cell BK117.out 1).trans rfl,(blk_cell BK117.out 2).trans rfl,(blk_cell BK117.out 3).trans rfl,(blk_cell BK117.out 4).trans rfl⟩ (fun hHeld => ?_);refine with_tabW strakelaw18_ReplayMore.tab13 strakelaw18_ReplayMore.bits13 (fun HT_ HW_ => ?_)
               generalize w42.drew = w52 at HO_8 HO_11 BK117 HB hHeld ⊢
               refine pure_ (i := 0) (N := some 62) (v := ?_) (a' := ?_) #[true,false,false,false,false,false,false,false,false,false,false,false,false,false,false,false,false,false,false,false,false,false,false,false,false,false,false,false,false,false,false,false,false,false,false,false,false,false,false,false,false,false,false,false,false,false,false,false,false,false,false,false,false] rfl rfl (any_of HT_.out (by kernel_rfl)) (fun _ _ _ h => h) (Or.inl ⟨by rfl,?_⟩) ?_ ?_
               rotate_left
               ·intro w'
                go_simp
                with_reducible rfl
               rotate_left
               ·simp only [Act.put, qa, qb, qc, i64_w, i32_w]
                rfl
               refine pure_ (i := 1) (N := some 63) (v := ?_) (a' := ?_) #[true,true,false,false,false,false,false,false,false,false,false,false,false,false,false,false,false,false,false,false,false,false,false,false,false,false,false,false,false,false,false,false,false,false,false,false,false,false,false,false,false,false,false,false,false,false,false,false,false,false,false,false,false] rfl rfl (any_of HT_.out (by kernel_rfl)) (fun _ _ _ h => h) (Or.inl ⟨by rfl,?_⟩) ?_ ?_
               rotate_left
               ·intro w'
                go_simp
                with_reducible rfl
               rotate_left
               ·simp only [Act.put, qa, qb, qc, i64_w, i32_w]
                rfl
               refine pure_ (i := 3) (N := some 65) (v := ?_) (a' := ?_) #[true,true,false,true,false,false,false,false,false,false,false,false,false,false,false,false,false,false,false,false,false,false,false,false,false,false,false,false,false,false,false,false,false,false,false,false,false,false,false,false,false,false,false,false,false,false,false,false,false,false,false,false,false] rfl rfl (any_of HT_.out (by kernel_rfl)) (fun _ _ _ h => h) (Or.inl ⟨by rfl,?_⟩) ?_ ?_
               rotate_left
               ·intro w'
                go_simp
                with_reducible rfl
               rotate_left
               ·simp only [Act.put, qa, qb, qc, i64_w, i32_w]
                rfl
               refine take_ (i := 2) (N := some 64) (v := ?_) (a' := ?_) #[true,true,true,true,false,false,false,false,false,false,false,false,false,false,false,false,false,false,false,false,false,false,false,false,false,false,false,false,false,false,false,false,false,false,false,false,false,false,false,false,false,false,false,false,false,false,false,false,false,false,false,false,false] rfl rfl (take_ofW HT_.out HW_.out (by kernel_rfl)) (fun _ _ _ h => h) (Or.inl ⟨by rfl,?_⟩) hHeld ?_ ?_
               rotate_left
               ·rintro w' ⟨s0, s1, s2, s3, s4⟩
                go_simp
                with_reducible rfl
               rotate_left
               ·simp only [Act.put, qa, qb, qc, i64_w, i32_w]
                rfl
               refine pure_ (i := 4) (N := some 66) (v := ?_) (a' := ?_) #[true,true,true,true,true,false,false,false,false,false,false,false,false,false,false,false,false,false,false,false,false,false,false,false,false,false,false,false,false,false,false,false,false,false,false,false,false,false,false,false,false,false,false,false,false,false,false,false,false,false,false,false,false] rfl rfl (any_of HT_.out (by kernel_rfl)) (fun _ _ _ h => h) (Or.inl ⟨by rfl,?_⟩) ?_ ?_
               rotate_left
               ·intro w'
                go_simp
                with_reducible rfl
               rotate_left
               ·simp only [Act.put, qa, qb, qc, i64_w, i32_w]
                rfl
               refine pure_ (i := 5) (N := some 67) (v := ?_) (a' := ?_) #[true,true,true,true,true,true,false,false,false,false,false,false,false,false,false,false,false,false,false,false,false,false,false,false,false,false,false,false,false,false,false,false,false,false,false,false,false,false,false,false,false,false,false,false,false,false,false,false,false,false,false,false,false] rfl rfl (any_of HT_.out (by kernel_rfl)) (fun _ _ _ h => h) (Or.inl ⟨by rfl,?_⟩) ?_ ?_
               rotate_left
               ·intro w'
                go_simp
                with_reducible rfl
               rotate_left
               ·simp only [Act.put, qa, qb, qc, i64_w, i32_w]
                rfl
               refine pure_ (i := 6) (N := some 68) (v := undef) (a' := ?_) #[true,true,true,true,true,true,true,false,false,false,false,false,false,false,false,false,false,false,false,false,false,false,false,false,false,false,false,false,false,false,false,false,false,false,false,false,false,false,false,false,false,false,false,false,false,false,false,false,false,false,false,false,false] rfl rfl (any_of HT_.out (by kernel_rfl)) (fun _ _ _ h => h) (Or.inr ⟨by rfl,rfl⟩) ?_ ?_
               rotate_left
               ·simp only [Act.put, qa, qb, qc, i64_w, i32_w]
                rfl
               refine pure_ (i := 7) (N := some 69) (v := undef) (a' := ?_) #[true,true,true,true,true,true,true,true,false,false,false,false,false,false,false,false,false,false,false,false,false,false,false,false,false,false,false,false,false,false,false,false,false,false,false,false,false,false,false,false,false,false,false,false,false,false,false,false,false,false,false,false,false] rfl rfl (any_of HT_.out (by kernel_rfl)) (fun _ _ _ h => h) (Or.inr ⟨by rfl,rfl⟩) ?_ ?_
               rotate_left
               ·simp only [Act.put, qa, qb, qc, i64_w, i32_w]
                rfl
               refine pure_ (i := 8) (N := some 70) (v := undef) (a' := ?_) #[true,true,true,true,true,true,true,true,true,false,false,false,false,false,false,false,false,false,false,false,false,false,false,false,false,false,false,false,false,false,false,false,false,false,false,false,false,false,false,false,false,false,false,false,false,false,false,false,false,false,false,false,false] rfl rfl (any_of HT_.out (by kernel_rfl)) (fun _ _ _ h => h) (Or.inr ⟨by rfl,rfl⟩) ?_ ?_
               rotate_left
               ·simp only [Act.put, qa, qb, qc, i64_w, i32_w]
                rfl
               refine pure_ (i := 9) (N := some 71) (v := undef) (a' := ?_) #[true,true,true,true,true,true,true,true,true,true,false,false,false,false,false,false,false,false,false,false,false,false,false,false,false,false,false,false,false,false,false,false,false,false,false,false,false,false,false,false,false,false,false,false,false,false,false,false,false,false,false,false,false] rfl rfl (any_of HT_.out (by kernel_rfl)) (fun _ _ _ h => h) (Or.inr ⟨by rfl,rfl⟩) ?_ ?_
               rotate_left
               ·simp only [Act.put, qa, qb, qc, i64_w, i32_w]
                rfl
               refine pure_ (i := 10) (N := some 72) (v := undef) (a' := ?_) #[true,true,true,true,true,true,true,true,true,true,true,false,false,false,false,false,false,false,false,false,false,false,false,false,false,false,false,false,false,false,false,false,false,false,false,false,false,false,false,false,false,false,false,false,false,false,false,false,false,false,false,false,false] rfl rfl (any_of HT_.out (by kernel_rfl)) (fun _ _ _ h => h) (Or.inr ⟨by rfl,rfl⟩) ?_ ?_
               rotate_left
               ·simp only [Act.put, qa, qb, qc, i64_w, i32_w]
                rfl
               refine pure_ (i := 11) (N := some 73) (v := undef) (a' := ?_) #[true,true,true,true,true,true,true,true,true,true,true,true,false,false,false,false,false,false,false,false,false,false,false,false,false,false,false,false,false,false,false,false,false,false,false,false,false,false,false,false,false,false,false,false,false,false,false,false,false,false,false,false,false] rfl rfl (any_of HT_.out (by kernel_rfl)) (fun _ _ _ h => h) (Or.inr ⟨by rfl,rfl⟩) ?_ ?_
               rotate_left
               ·simp only [Act.put, qa, qb, qc, i64_w, i32_w]
                rfl
               refine pure_ (i := 12) (N := some 74) (v := undef) (a' := ?_) #[true,true,true,true,true,true,true,true,true,true,true,true,true,false,false,false,false,false,false,false,false,false,false,false,false,false,false,false,false,false,false,false,false,false,false,false,false,false,false,false,false,false,false,false,false,false,false,false,false,false,false,false,false] rfl rfl (any_of HT_.out (by kernel_rfl)) (fun _ _ _ h => h) (Or.inr ⟨by rfl,rfl⟩) ?_ ?_
               rotate_left
               ·simp only [Act.put, qa, qb, qc, i64_w, i32_w]
                rfl
               refine pure_ (i := 13) (N := some 75) (v := undef) (a' := ?_) #[true,true,true,true,true,true,true,true,true,true,true,true,true,true,false,false,false,false,false,false,false,false,false,false,false,false,false,false,false,false,false,false,false,false,false,false,false,false,false,false,false,false,false,false,false,false,false,false,false,false,false,false,false] rfl rfl (any_of HT_.out (by kernel_rfl)) (fun _ _ _ h => h) (Or.inr ⟨by rfl,rfl⟩) ?_ ?_
               rotate_left
               ·simp only [Act.put, qa, qb, qc, i64_w, i32_w]
                rfl
               refine pure_ (i := 14) (N := some 76) (v := undef) (a' := ?_) #[true,true,true,true,true,true,true,true,true,true,true,true,true,true,true,false,false,false,false,false,false,false,false,false,false,false,false,false,false,false,false,false,false,false,false,false,false,false,false,false,false,false,false,false,false,false,false,false,false,false,false,false,false] rfl rfl (any_of HT_.out (by kernel_rfl)) (fun _ _ _ h => h) (Or.inr ⟨by rfl,rfl⟩) ?_ ?_
               rotate_left
               ·simp only [Act.put, qa, qb, qc, i64_w, i32_w]
                rfl
               refine pure_ (i := 15) (N := some 77) (v := undef) (a' := ?_) #[true,true,true,true,true,true,true,true,true,true,true,true,true,true,true,true,false,false,false,false,false,false,false,false,false,false,false,false,false,false,false,false,false,false,false,false,false,false,false,false,false,false,false,false,false,false,false,false,false,false,false,false,false] rfl rfl (any_of HT_.out (by kernel_rfl)) (fun _ _ _ h => h) (Or.inr ⟨by rfl,rfl⟩) ?_ ?_
               rotate_left
               ·simp only [Act.put, qa, qb, qc, i64_w, i32_w]
                rfl
               refine pure_ (i := 16) (N := some 78) (v := undef) (a' := ?_) #[true,true,true,true,true,true,true,true,true,true,true,true,true,true,true,true,true,false,false,false,false,false,false,false,false,false,false,false,false,false,false,false,false,false,false,false,false,false,false,false,false,false,false,false,false,false,false,false,false,false,false,false,false] rfl rfl (any_of HT_.out (by kernel_rfl)) (fun _ _ _ h => h) (Or.inr ⟨by rfl,rfl⟩) ?_ ?_
               rotate_left
               ·simp only [Act.put, qa, qb, qc, i64_w, i32_w]
                rfl
               refine pure_ (i := 17) (N := some 79) (v := undef) (a' := ?_) #[true,true,true,true,true,true,true,true,true,true,true,true,true,true,true,true,true,true,false,false,false,false,false,false,false,false,false,false,false,false,false,false,false,false,false,false,false,false,false,false,false,false,false,false,false,false,false,false,false,false,false,false,false] rfl rfl (any_of HT_.out (by kernel_rfl)) (fun _ _ _ h => h) (Or.inr ⟨by rfl,rfl⟩) ?_ ?_
               rotate_left
               ·simp only [Act.put, qa, qb, qc, i64_w, i32_w]
                rfl
               refine pure_ (i := 18) (N := some 80) (v := undef) (a' := ?_) #[true,true,true,true,true,true,true,true,true,true,true,true,true,true,true,true,true,true,true,false,false,false,false,false,false,false,false,false,false,false,false,false,false,false,false,false,false,false,false,false,false,false,false,false,false,false,false,false,false,false,false,false,false] rfl rfl (any_of HT_.out (by kernel_rfl)) (fun _ _ _ h => h) (Or.inr ⟨by rfl,rfl⟩) ?_ ?_
               rotate_left
               ·simp only [Act.put, qa, qb, qc, i64_w, i32_w]
                rfl
               refine pure_ (i := 19) (N := some 81) (v := undef) (a' := ?_) #[true,true,true,true,true,true,true,true,true,true,true,true,true,true,true,true,true,true,true,true,false,false,false,false,false,false,false,false,false,false,false,false,false,false,false,false,false,false,false,false,false,false,false,false,false,false,false,false,false,false,false,false,false] rfl rfl (any_of HT_.out (by kernel_rfl)) (fun _ _ _ h => h) (Or.inr ⟨by rfl,rfl⟩) ?_ ?_
               rotate_left
               ·simp only [Act.put, qa, qb, qc, i64_w, i32_w]
                rfl
               refine pure_ (i := 20) (N := some 82) (v := ?_) (a' := ?_) #[true,true,true,true,true,true,true,true,true,true,true,true,true,true,true,true,true,true,true,true,true,false,false,false,false,false,false,false,false,false,false,false,false,false,false,false,false,false,false,false,false,false,false,false,false,false,false,false,false,false,false,false,false] rfl rfl (any_of HT_.out (by kernel_rfl)) (fun _ _ _ h => h) (Or.inl ⟨by rfl,?_⟩) ?_ ?_
               rotate_left
               ·intro w'
                go_simp
                with_reducible rfl
               rotate_left
               ·simp only [Act.put, qa, qb, qc, i64_w, i32_w]
                rfl
               refine pure_ (i := 21) (N := some 83) (v := ?_) (a' := ?_) #[true,true,true,true,true,true,true,true,true,true,true,true,true,true,true,true,true,true,true,true,true,true,false,false,false,false,false,false,false,false,false,false,false,false,false,false,false,false,false,false,false,false,false,false,false,false,false,false,false,false,false,false,false] rfl rfl (any_of HT_.out (by kernel_rfl)) (fun _ _ _ h => h) (Or.inl ⟨by rfl,?_⟩) ?_ ?_
               rotate_left
               ·intro w'
                go_simp
                with_reducible rfl
               rotate_left
               ·simp only [Act.put, qa, qb, qc, i64_w, i32_w]
                rfl
               refine pure_ (i := 22) (N := some 84) (v := undef) (a' := ?_) #[true,true,true,true,true,true,true,true,true,true,true,true,true,true,true,true,true,true,true,true,true,true,true,false,false,false,false,false,false,false,false,false,false,false,false,false,false,false,false,false,false,false,false,false,false,false,false,false,false,false,false,false,false] rfl rfl (any_of HT_.out (by kernel_rfl)) (fun _ _ _ h => h) (Or.inr ⟨by rfl,rfl⟩) ?_ ?_
               rotate_left
               ·simp only [Act.put, qa, qb, qc, i64_w, i32_w]
                rfl
               refine pure_ (i := 23) (N := some 85) (v := undef) (a' := ?_) #[true,true,true,true,true,true,true,true,true,true,true,true,true,true,true,true,true,true,true,true,true,true,true,true,false,false,false,false,false,false,false,false,false,false,false,false,false,false,false,false,false,false,false,false,false,false,false,false,false,false,false,false,false] rfl rfl (any_of HT_.out (by kernel_rfl)) (fun _ _ _ h => h) (Or.inr ⟨by rfl,rfl⟩) ?_ ?_
               rotate_left
               ·simp only [Act.put, qa, qb, qc, i64_w, i32_w]
                rfl
               refine pure_ (i := 24) (N := some 86) (v := undef) (a' := ?_) #[true,true,true,true,true,true,true,true,true,true,true,true,true,true,true,true,true,true,true,true,true,true,true,true,true,false,false,false,false,false,false,false,false,false,false,false,false,false,false,false,false,false,false,false,false,false,false,false,false,false,false,false,false] rfl rfl (any_of HT_.out (by kernel_rfl)) (fun _ _ _ h => h) (Or.inr ⟨by rfl,rfl⟩) ?_ ?_
               rotate_left
               ·simp only [Act.put, qa, qb, qc, i64_w, i32_w]
                rfl
               refine pure_ (i := 25) (N := some 87) (v := undef) (a' := ?_) #[true,true,true,true,true,true,true,true,true,true,true,true,true,true,true,true,true,true,true,true,true,true,true,true,true,true,false,false,false,false,false,false,false,false,false,false,false,false,false,false,false,false,false,false,false,false,false,false,false,false,false,false,false] rfl rfl (any_of HT_.out (by kernel_rfl)) (fun _ _ _ h => h) (Or.inr ⟨by rfl,rfl⟩) ?_ ?_
               rotate_left
               ·simp only [Act.put, qa, qb, qc, i64_w, i32_w]
                rfl
               refine pure_ (i := 26) (N := some 88) (v := undef) (a' := ?_) #[true,true,true,true,true,true,true,true,true,true,true,true,true,true,true,true,true,true,true,true,true,true,true,true,true,true,true,false,false,false,false,false,false,false,false,false,false,false,false,false,false,false,false,false,false,false,false,false,false,false,false,false,false] rfl rfl (any_of HT_.out (by kernel_rfl)) (fun _ _ _ h => h) (Or.inr ⟨by rfl,rfl⟩) ?_ ?_
               rotate_left
               ·simp only [Act.put, qa, qb, qc, i64_w, i32_w]
                rfl
               refine pure_ (i := 27) (N := some 89) (v := undef) (a' := ?_) #[true,true,true,true,true,true,true,true,true,true,true,true,true,true,true,true,true,true,true,true,true,true,true,true,true,true,true,true,false,false,false,false,false,false,false,false,false,false,false,false,false,false,false,false,false,false,false,false,false,false,false,false,false] rfl rfl (any_of HT_.out (by kernel_rfl)) (fun _ _ _ h => h) (Or.inr ⟨by rfl,rfl⟩) ?_ ?_
               rotate_left
               ·simp only [Act.put, qa, qb, qc, i64_w, i32_w]
                rfl
               refine pure_ (i := 28) (N := some 90) (v := undef) (a' := ?_) #[true,true,true,true,true,true,true,true,true,true,true,true,true,true,true,true,true,true,true,true,true,true,true,true,true,true,true,true,true,false,false,false,false,false,false,false,false,false,false,false,false,false,false,false,false,false,false,false,false,false,false,false,false] rfl rfl (any_of HT_.out (by kernel_rfl)) (fun _ _ _ h => h) (Or.inr ⟨by rfl,rfl⟩) ?_ ?_
               rotate_left
               ·simp only [Act.put, qa, qb, qc, i64_w, i32_w]
                rfl
               refine pure_ (i := 29) (N := some 91) (v := undef) (a' := ?_) #[true,true,true,true,true,true,true,true,true,true,true,true,true,true,true,true,true,true,true,true,true,true,true,true,true,true,true,true,true,true,false,false,false,false,false,false,false,false,false,false,false,false,false,false,false,false,false,false,false,false,false,false,false] rfl rfl (any_of HT_.out (by kernel_rfl)) (fun _ _ _ h => h) (Or.inr ⟨by rfl,rfl⟩) ?_ ?_
               rotate_left
               ·simp only [Act.put, qa, qb, qc, i64_w, i32_w]
                rfl
               refine pure_ (i := 30) (N := some 92) (v := undef) (a' := ?_) #[true,true,true,true,true,true,true,true,true,true,true,true,true,true,true,true,true,true,true,true,true,true,true,true,true,true,true,true,true,true,true,false,false,false,false,false,false,false,false,false,false,false,false,false,false,false,false,false,false,false,false,false,false] rfl rfl (any_of HT_.out (by kernel_rfl)) (fun _ _ _ h => h) (Or.inr ⟨by rfl,rfl⟩) ?_ ?_
               rotate_left
               ·simp only [Act.put, qa, qb, qc, i64_w, i32_w]
                rfl
               refine pure_ (i := 31) (N := some 93) (v := ?_) (a' := ?_) #[true,true,true,true,true,true,true,true,true,true,true,true,true,true,true,true,true,true,true,true,true,true,true,true,true,true,true,true,true,true,true,true,false,false,false,false,false,false,false,false,false,false,false,false,false,false,false,false,false,false,false,false,false] rfl rfl (any_of HT_.out (by kernel_rfl)) (fun _ _ _ h => h) (Or.inl ⟨by rfl,?_⟩) ?_ ?_
               rotate_left
               ·intro w'
                go_simp
                with_reducible rfl
               rotate_left
               ·simp only [Act.put, qa, qb, qc, i64_w, i32_w]
                rfl
               refine pure_ (i := 32) (N := some 94) (v := ?_) (a' := ?_) #[true,true,true,true,true,true,true,true,true,true,true,true,true,true,true,true,true,true,true,true,true,true,true,true,true,true,true,true,true,true,true,true,true,false,false,false,false,false,false,false,false,false,false,false,false,false,false,false,false,false,false,false,false] rfl rfl (any_of HT_.out (by kernel_rfl)) (fun _ _ _ h => h) (Or.inl ⟨by rfl,?_⟩) ?_ ?_
               rotate_left
               ·intro w'
                go_simp
                with_reducible rfl
               rotate_left
               ·simp only [Act.put, qa, qb, qc, i64_w, i32_w]
                rfl
               refine pure_ (i := 33) (N := some 95) (v := undef) (a' := ?_) #[true,true,true,true,true,true,true,true,true,true,true,true,true,true,true,true,true,true,true,true,true,true,true,true,true,true,true,true,true,true,true,true,true,true,false,false,false,false,false,false,false,false,false,false,false,false,false,false,false,false,false,false,false] rfl rfl (any_of HT_.out (by kernel_rfl)) (fun _ _ _ h => h) (Or.inr ⟨by rfl,rfl⟩) ?_ ?_
               rotate_left
               ·simp only [Act.put, qa, qb, qc, i64_w, i32_w]
                rfl
               refine pure_ (i := 34) (N := some 96) (v := undef) (a' := ?_) #[true,true,true,true,true,true,true,true,true,true,true,true,true,true,true,true,true,true,true,true,true,true,true,true,true,true,true,true,true,true,true,true,true,true,true,false,false,false,false,false,false,false,false,false,false,false,false,false,false,false,false,false,false] rfl rfl (any_of HT_.out (by kernel_rfl)) (fun _ _ _ h => h) (Or.inr ⟨by rfl,rfl⟩) ?_ ?_
               rotate_left
               ·simp only [Act.put, qa, qb, qc, i64_w, i32_w]
                rfl
               refine pure_ (i := 35) (N := some 97) (v := undef) (a' := ?_) #[true,true,true,true,true,true,true,true,true,true,true,true,true,true,true,true,true,true,true,true,true,true,true,true,true,true,true,true,true,true,true,true,true,true,true,true,false,false,false,false,false,false,false,false,false,false,false,false,false,false,false,false,false] rfl rfl (any_of HT_.out (by kernel_rfl)) (fun _ _ _ h => h) (Or.inr ⟨by rfl,rfl⟩) ?_ ?_
               rotate_left
               ·simp only [Act.put, qa, qb, qc, i64_w, i32_w]
                rfl
               refine pure_ (i := 36) (N := some 98) (v := undef) (a' := ?_) #[true,true,true,true,true,true,true,true,true,true,true,true,true,true,true,true,true,true,true,true,true,true,true,true,true,true,true,true,true,true,true,true,true,true,true,true,true,false,false,false,false,false,false,false,false,false,false,false,false,false,false,false,false] rfl rfl (any_of HT_.out (by kernel_rfl)) (fun _ _ _ h => h) (Or.inr ⟨by rfl,rfl⟩) ?_ ?_
               rotate_left
               ·simp only [Act.put, qa, qb, qc, i64_w, i32_w]
                rfl
               refine pure_ (i := 37) (N := some 99) (v := undef) (a' := ?_) #[true,true,true,true,true,true,true,true,true,true,true,true,true,true,true,true,true,true,true,true,true,true,true,true,true,true,true,true,true,true,true,true,true,true,true,true,true,true,false,false,false,false,false,false,false,false,false,false,false,false,false,false,false] rfl rfl (any_of HT_.out (by kernel_rfl)) (fun _ _ _ h => h) (Or.inr ⟨by rfl,rfl⟩) ?_ ?_
               rotate_left
               ·simp only [Act.put, qa, qb, qc, i64_w, i32_w]
                rfl
               refine pure_ (i := 38) (N := some 100) (v := undef) (a' := ?_) #[true,true,true,true,true,true,true,true,true,true,true,true,true,true,true,true,true,true,true,true,true,true,true,true,true,true,true,true,true,true,true,true,true,true,true,true,true,true,true,false,false,false,false,false,false,false,false,false,false,false,false,false,false] rfl rfl (any_of HT_.out (by kernel_rfl)) (fun _ _ _ h => h) (Or.inr ⟨by rfl,rfl⟩) ?_ ?_
               rotate_left
               ·simp only [Act.put, qa, qb, qc, i64_w, i32_w]
                rfl
               refine pure_ (i := 39) (N := some 101) (v := undef) (a' := ?_) #[true,true,true,true,true,true,true,true,true,true,true,true,true,true,true,true,true,true,true,true,true,true,true,true,true,true,true,true,true,true,true,true,true,true,true,true,true,true,true,true,false,false,false,false,false,false,false,false,false,false,false,false,false] rfl rfl (any_of HT_.out (by kernel_rfl)) (fun _ _ _ h => h) (Or.inr ⟨by rfl,rfl⟩) ?_ ?_
               rotate_left
               ·simp only [Act.put, qa, qb, qc, i64_w, i32_w]
                rfl
               refine pure_ (i := 40) (N := some 102) (v := undef) (a' := ?_) #[true,true,true,true,true,true,true,true,true,true,true,true,true,true,true,true,true,true,true,true,true,true,true,true,true,true,true,true,true,true,true,true,true,true,true,true,true,true,true,true,true,false,false,false,false,false,false,false,false,false,false,false,false] rfl rfl (any_of HT_.out (by kernel_rfl)) (fun _ _ _ h => h) (Or.inr ⟨by rfl,rfl⟩) ?_ ?_
               rotate_left
               ·simp only [Act.put, qa, qb, qc, i64_w, i32_w]
                rfl
               refine pure_ (i := 41) (N := some 103) (v := undef) (a' := ?_) #[true,true,true,true,true,true,true,true,true,true,true,true,true,true,true,true,true,true,true,true,true,true,true,true,true,true,true,true,true,true,true,true,true,true,true,true,true,true,true,true,true,true,false,false,false,false,false,false,false,false,false,false,false] rfl rfl (any_of HT_.out (by kernel_rfl)) (fun _ _ _ h => h) (Or.inr ⟨by rfl,rfl⟩) ?_ ?_
               rotate_left
               ·simp only [Act.put, qa, qb, qc, i64_w, i32_w]
                rfl
               refine pure_ (i := 42) (N := some 104) (v := undef) (a' := ?_) #[true,true,true,true,true,true,true,true,true,true,true,true,true,true,true,true,true,true,true,true,true,true,true,true,true,true,true,true,true,true,true,true,true,true,true,true,true,true,true,true,true,true,true,false,false,false,false,false,false,false,false,false,false] rfl rfl (any_of HT_.out (by kernel_rfl)) (fun _ _ _ h => h) (Or.inr ⟨by rfl,rfl⟩) ?_ ?_
               rotate_left
               ·simp only [Act.put, qa, qb, qc, i64_w, i32_w]
                rfl
               refine pure_ (i := 43) (N := some 105) (v := undef) (a' := ?_) #[true,true,true,true,true,true,true,true,true,true,true,true,true,true,true,true,true,true,true,true,true,true,true,true,true,true,true,true,true,true,true,true,true,true,true,true,true,true,true,true,true,true,true,true,false,false,false,false,false,false,false,false,false] rfl rfl (any_of HT_.out (by kernel_rfl)) (fun _ _ _ h => h) (Or.inr ⟨by rfl,rfl⟩) ?_ ?_
               rotate_left
               ·simp only [Act.put, qa, qb, qc, i64_w, i32_w]
                rfl
               refine pure_ (i := 44) (N := some 106) (v := undef) (a' := ?_) #[true,true,true,true,true,true,true,true,true,true,true,true,true,true,true,true,true,true,true,true,true,true,true,true,true,true,true,true,true,true,true,true,true,true,true,true,true,true,true,true,true,true,true,true,true,false,false,false,false,false,false,false,false] rfl rfl (any_of HT_.out (by kernel_rfl)) (fun _ _ _ h => h) (Or.inr ⟨by rfl,rfl⟩) ?_ ?_
               rotate_left
               ·simp only [Act.put, qa, qb, qc, i64_w, i32_w]
                rfl
               refine pure_ (i := 45) (N := some 107) (v := undef) (a' := ?_) #[true,true,true,true,true,true,true,true,true,true,true,true,true,true,true,true,true,true,true,true,true,true,true,true,true,true,true,true,true,true,true,true,true,true,true,true,true,true,true,true,true,true,true,true,true,true,false,false,false,false,false,false,false] rfl rfl (any_of HT_.out (by kernel_rfl)) (fun _ _ _ h => h) (Or.inr ⟨by rfl,rfl⟩) ?_ ?_
               rotate_left
               ·simp only [Act.put, qa, qb, qc, i64_w, i32_w]
                rfl
               refine pure_ (i := 46) (N := some 108) (v := undef) (a' := ?_) #[true,true,true,true,true,true,true,true,true,true,true,true,true,true,true,true,true,true,true,true,true,true,true,true,true,true,true,true,true,true,true,true,true,true,true,true,true,true,true,true,true,true,true,true,true,true,true,false,false,false,false,false,false] rfl rfl (any_of HT_.out (by kernel_rfl)) (fun _ _ _ h => h) (Or.inr ⟨by rfl,rfl⟩) ?_ ?_
               rotate_left
               ·simp only [Act.put, qa, qb, qc, i64_w, i32_w]
                rfl
               refine pure_ (i := 47) (N := some 109) (v := undef) (a' := ?_) #[true,true,true,true,true,true,true,true,true,true,true,true,true,true,true,true,true,true,true,true,true,true,true,true,true,true,true,true,true,true,true,true,true,true,true,true,true,true,true,true,true,true,true,true,true,true,true,true,false,false,false,false,false] rfl rfl (any_of HT_.out (by kernel_rfl)) (fun _ _ _ h => h) (Or.inr ⟨by rfl,rfl⟩) ?_ ?_
               rotate_left
               ·simp only [Act.put, qa, qb, qc, i64_w, i32_w]
                rfl
               refine pure_ (i := 48) (N := some 110) (v := undef) (a' := ?_) #[true,true,true,true,true,true,true,true,true,true,true,true,true,true,true,true,true,true,true,true,true,true,true,true,true,true,true,true,true,true,true,true,true,true,true,true,true,true,true,true,true,true,true,true,true,true,true,true,true,false,false,false,false] rfl rfl (any_of HT_.out (by kernel_rfl)) (fun _ _ _ h => h) (Or.inr ⟨by rfl,rfl⟩) ?_ ?_
               rotate_left
               ·simp only [Act.put, qa, qb, qc, i64_w, i32_w]
                rfl
               refine pure_ (i := 49) (N := some 111) (v := undef) (a' := ?_) #[true,true,true,true,true,true,true,true,true,true,true,true,true,true,true,true,true,true,true,true,true,true,true,true,true,true,true,true,true,true,true,true,true,true,true,true,true,true,true,true,true,true,true,true,true,true,true,true,true,true,false,false,false] rfl rfl (any_of HT_.out (by kernel_rfl)) (fun _ _ _ h => h) (Or.inr ⟨by rfl,rfl⟩) ?_ ?_
               rotate_left
               ·simp only [Act.put, qa, qb, qc, i64_w, i32_w]
                rfl
               refine pure_ (i := 50) (N := some 112) (v := undef) (a' := ?_) #[true,true,true,true,true,true,true,true,true,true,true,true,true,true,true,true,true,true,true,true,true,true,true,true,true,true,true,true,true,true,true,true,true,true,true,true,true,true,true,true,true,true,true,true,true,true,true,true,true,true,true,false,false] rfl rfl (any_of HT_.out (by kernel_rfl)) (fun _ _ _ h => h) (Or.inr ⟨by rfl,rfl⟩) ?_ ?_
               rotate_left
               ·simp only [Act.put, qa, qb, qc, i64_w, i32_w]
                rfl
               refine pure_ (i := 51) (N := some 113) (v := undef) (a' := ?_) #[true,true,true,true,true,true,true,true,true,true,true,true,true,true,true,true,true,true,true,true,true,true,true,true,true,true,true,true,true,true,true,true,true,true,true,true,true,true,true,true,true,true,true,true,true,true,true,true,true,true,true,true,false] rfl rfl (any_of HT_.out (by kernel_rfl)) (fun _ _ _ h => h) (Or.inr ⟨by rfl,rfl⟩) ?_ ?_
               rotate_left
               ·simp only [Act.put, qa, qb, qc, i64_w, i32_w]
                rfl
               refine pure_ (i := 52) (N := some 114) (v := ?_) (a' := ?_) #[true,true,true,true,true,true,true,true,true,true,true,true,true,true,true,true,true,true,true,true,true,true,true,true,true,true,true,true,true,true,true,true,true,true,true,true,true,true,true,true,true,true,true,true,true,true,true,true,true,true,true,true,true] rfl rfl (any_of HT_.out (by kernel_rfl)) (fun _ _ _ h => h) (Or.inl ⟨by rfl,?_⟩) ?_ ?_
               rotate_left
               ·intro w'
                go_simp
                with_reducible rfl
               rotate_left
               ·simp only [Act.put, qa, qb, qc, i64_w, i32_w]
                rfl
               refine done_ (done_of HT_.out (by kernel_rfl)) ?_
               try go_wp2
               go_meet
               case rel => exact ⟨_,(true),(by first|rfl|(simp;done)|(simp [*];done)),H',⟨by have := HJ11.out;have := HK2.out;first|omega|exact Nat.le_refl _⟩,⟨by (with_reducible repeat (first|apply Kd.R_alloc|apply Kd.R_drewN|apply Kd.R_drew));exact HO_8.out⟩,⟨by (with_reducible repeat (first|apply Kd.R_alloc|apply Kd.R_drewN|apply Kd.R_drew));exact HO_11.out⟩,⟨by (with_reducible repeat (first|refine blk_drewN ?_ _|refine blk_drew ?_|refine blk_alloc ?_ _));exact BK117.out⟩,⟨by repeat (first|(with_reducible first|exact HB.out|apply below_alloc|apply pw_below_drewN|apply below_drew1|refine below_set ?_ GE117.out)|exact HB.out)⟩⟩
             case rest =>
              clear HC40
              try clear p2
              try clear c4
              try clear c44
              try clear c44b0
              try clear c44b1
              obtain ⟨kq, x114_39, rfl, HA, HJ39, HO_8, HO_11, BK117, HB⟩ := hcut
              cases kq with
              | zero => exact absurd HA.out (by simp [strakelaw18_ReplayMore.j2])
              | succ kj39 =>
               have H := HA.out
               clear HA
               simp only [strakelaw18_ReplayMore.j2] at H
               by_cases c53 : x114_39 = true
               ·subst c53
                have H1 : (some false) = some r := by rw [if_pos rfl] at H; exact H
                clear H
                have H := H1
                clear H1
                obtain rfl := Option.some.inj H
                go_wp2
                go_ret
                exact ⟨by first|rfl|(simp [errW_none,errW_some] <;> rfl)|(simp [*,errW_none,errW_some] <;> rfl),by repeat (first|(with_reducible first|exact HB.out|apply below_alloc|apply pw_below_drewN|apply below_drew1|refine below_set ?_ GE117.out)|exact HB.out)⟩
               ·replace c53 := Bool.eq_false_iff.mpr c53
                subst c53
                have H1 : (strakelaw18_ReplayMore.l0 kj39 t118 t119 t135 (wrap64 (x13_2 + 1)) a2_0 a2_1 a2_2 a2_3 a2_4) = some r := by rw [if_neg (show ¬ (false = true) by decide)] at H;exact H
                clear H
                have H := H1
                clear H1
                have H' := Aside0.mk H
                clear H
                go_wp2
                go_roundg kj39
                case measure => have := HJ11.out; have := HK2.out; have := HJ39.out; omega
                case rel => exact ⟨(wrap64 (x13_2 + 1)),(by first|rfl|(simp;done)|(simp [*];done)),H',⟨by have := HJ11.out;have := HK2.out;have := HJ39.out;omega⟩,⟨by (with_reducible repeat (first|apply Kd.R_alloc|apply Kd.R_drewN|apply Kd.R_drew));exact HO_8.out⟩,⟨by (with_reducible repeat (first|apply Kd.R_alloc|apply Kd.R_drewN|apply Kd.R_drew));exact HO_11.out⟩,⟨by (with_reducible repeat (first|refine blk_drewN ?_ _|refine blk_drew ?_|refine blk_alloc ?_ _));exact BK117.out⟩,⟨by repeat (first|(with_reducible first|exact HB.out|apply below_alloc|apply pw_below_drewN|apply below_drew1|refine below_set ?_ GE117.out)|exact HB.out)⟩⟩
           ·rw [if_neg c35] at H
            exact absurd H (by simp)
          ·rw [if_neg c34] at H
           exact absurd H (by simp)
         ·rw [if_neg c33] at H
          have c33b0 : decide (x13_2 < (t119.length : Int)) = false := decide_eq_false c33
          clear c33
          obtain rfl := Option.some.inj H
          obtain ⟨Ao54, co54, eo54⟩ := Kd.R_slice HO_8.out
          subst eo54
          go_wp2
          go_ret
          exact ⟨by first|rfl|(simp [errW_none,errW_some] <;> rfl)|(simp [*,errW_none,errW_some] <;> rfl),by repeat (first|(with_reducible first|exact HB.out|apply below_alloc|apply pw_below_drewN|apply below_drew1|refine below_set ?_ GE117.out)|exact HB.out)⟩
   ·rw [if_neg c10] at H
    exact absurd H (by simp)
  ·rw [if_neg c9] at H
   exact absurd H (by simp)

end Go.Proofs.Ytlheknapgonakaa.X
