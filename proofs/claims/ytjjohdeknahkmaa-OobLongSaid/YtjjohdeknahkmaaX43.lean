-- laid by wip/tools/xprint.py (our own changes over the printer)
import Derived.Test.YtjjohdeknahkmaaX0
import Derived.Test.YtjjohdeknahkmaaX2
import Derived.Test.YtjjohdeknahkmaaX19
import Derived.Test.YtjjohdeknahkmaaX20
import Derived.Test.YtjjohdeknahkmaaX38
namespace Go.Proofs.Ytjjohdeknahkmaa.X
open Go.RowKit Go.Proofs.YtjjohdeknahkmaaW.PrintWords Go.Proofs.YtjjohdeknahkmaaW.PrintLast Go.Proofs.YtjjohdeknahkmaaW.PrintMore
attribute [local go_sem] max2_int min2_int max_two min_two max_three min_three max_four min_four   -- for this text's walks alone
set_option linter.unusedVariables false
set_option linter.unusedSimpArgs false

attribute [local go_sem high] eqA31
/-! ### strakelaw05_OobLong: function 14 -/
mutual
def strakelaw05_OobLong.j1 : Nat → Bool → Option (Bool)
  | 0, _ => none
  | k + 1, x6 => some x6
def strakelaw05_OobLong.j2 : Nat → Bool → Option (Bool)
  | 0, _ => none
  | k + 1, x6 => some x6
def strakelaw05_OobLong.j0 : Nat → Bool → Option (Bool)
  | 0, _ => none
  | k + 1, x6 => some x6
end
def strakelaw05_OobLong.f (k : Nat) (a0_0 : Int) (a0_1 : Int) (a0_2 : Int) (l1 : List Int) (l2 : List Int) : Option (Bool) := (strakelaw05_awake.f k).bind fun t496 => (if (l2.length : Int) > 1000 then (some t496) else ((oob_Pack.f k a0_0 a0_1 a0_2 l1).bind fun bt497 => (if bt497.2 = 0 then ((some (([] : List Int) : List Int)).bind fun y501 => (if y501.length + bt497.1.length < 140737488355328 then ((some (y501 ++ bt497.1 : List Int)).bind fun y504 => (if y504.length + l2.length < 140737488355328 then ((oob_Unpack.f k (y504 ++ l2) l1).bind fun bt510 => ((some (([] : List Int) : List Int)).bind fun y515 => (if y515.length + l1.length < 140737488355328 then ((some (y515 ++ l1 : List Int)).bind fun y518 => (if y518.length + l2.length < 140737488355328 then ((oob_Unpack.f k bt497.1 (y518 ++ l2)).bind fun bt524 => (if (l2.length : Int) = 0 then (if t496 = true then (if (bt510.1 == a0_0 && (bt510.2.1 == a0_1 && (bt510.2.2.1 == a0_2))) = true then (strakelaw05_OobLong.j1 k (bt524.1 == a0_0 && (bt524.2.1 == a0_1 && (bt524.2.2.1 == a0_2)))) else (strakelaw05_OobLong.j1 k false)) else (strakelaw05_OobLong.j1 k false)) else (if t496 = true then (if bt510.2.2.2 = 3 then (if bt524.2.2.2 = 3 then (if (bt510.1 == 0 && (bt510.2.1 == 0 && (bt510.2.2.1 == 0))) = true then (strakelaw05_OobLong.j2 k (bt524.1 == 0 && (bt524.2.1 == 0 && (bt524.2.2.1 == 0)))) else (strakelaw05_OobLong.j2 k false)) else (strakelaw05_OobLong.j2 k false)) else (strakelaw05_OobLong.j2 k false)) else (strakelaw05_OobLong.j2 k false)))) else (none))) else (none)))) else (none))) else (none))) else (if t496 = true then (if bt497.2 = 1 then (strakelaw05_OobLong.j0 k ((bt497.1.length : Int) == 0)) else (strakelaw05_OobLong.j0 k false)) else (strakelaw05_OobLong.j0 k false)))))
theorem strakelaw05_OobLong.mono_l : ∀ k, (∀ y0, LeO (strakelaw05_OobLong.j1 k y0) (strakelaw05_OobLong.j1 (k + 1) y0)) ∧ (∀ y0, LeO (strakelaw05_OobLong.j2 k y0) (strakelaw05_OobLong.j2 (k + 1) y0)) ∧ (∀ y0, LeO (strakelaw05_OobLong.j0 k y0) (strakelaw05_OobLong.j0 (k + 1) y0))
  | 0 => ⟨fun _ r h => by simp [strakelaw05_OobLong.j1] at h, fun _ r h => by simp [strakelaw05_OobLong.j2] at h, fun _ r h => by simp [strakelaw05_OobLong.j0] at h⟩
  | k + 1 => by
    obtain ⟨ih0, ih1, ih2⟩ := strakelaw05_OobLong.mono_l k
    refine ⟨?_, ?_, ?_⟩
    · intro y0
      unfold strakelaw05_OobLong.j1
      repeat' first
      | (with_reducible exact ih0 _)
      | (with_reducible exact ih1 _)
      | (with_reducible exact ih2 _)
      | (with_reducible exact oob_Pack.mono _ _ _ _ _)
      | (with_reducible exact oob_Unpack.mono _ _ _)
      | (with_reducible exact strakelaw05_awake.mono _)
      | (with_reducible exact LeO.refl _)
      | (with_reducible exact LeO.none _)
      | (with_reducible refine LeO.ite ?_ ?_)
      | (with_reducible refine LeO.bind ?_ (fun _ => ?_))
      | exact ih0 _
      | exact ih1 _
      | exact ih2 _
      | exact oob_Pack.mono _ _ _ _ _
      | exact oob_Unpack.mono _ _ _
      | exact strakelaw05_awake.mono _
      | exact LeO.none _
      | refine LeO.ite ?_ ?_
      | refine LeO.bind ?_ (fun _ => ?_)
    · intro y0
      unfold strakelaw05_OobLong.j2
      repeat' first
      | (with_reducible exact ih0 _)
      | (with_reducible exact ih1 _)
      | (with_reducible exact ih2 _)
      | (with_reducible exact oob_Pack.mono _ _ _ _ _)
      | (with_reducible exact oob_Unpack.mono _ _ _)
      | (with_reducible exact strakelaw05_awake.mono _)
      | (with_reducible exact LeO.refl _)
      | (with_reducible exact LeO.none _)
      | (with_reducible refine LeO.ite ?_ ?_)
      | (with_reducible refine LeO.bind ?_ (fun _ => ?_))
      | exact ih0 _
      | exact ih1 _
      | exact ih2 _
      | exact oob_Pack.mono _ _ _ _ _
      | exact oob_Unpack.mono _ _ _
      | exact strakelaw05_awake.mono _
      | exact LeO.none _
      | refine LeO.ite ?_ ?_
      | refine LeO.bind ?_ (fun _ => ?_)
    · intro y0
      unfold strakelaw05_OobLong.j0
      repeat' first
      | (with_reducible exact ih0 _)
      | (with_reducible exact ih1 _)
      | (with_reducible exact ih2 _)
      | (with_reducible exact oob_Pack.mono _ _ _ _ _)
      | (with_reducible exact oob_Unpack.mono _ _ _)
      | (with_reducible exact strakelaw05_awake.mono _)
      | (with_reducible exact LeO.refl _)
      | (with_reducible exact LeO.none _)
      | (with_reducible refine LeO.ite ?_ ?_)
      | (with_reducible refine LeO.bind ?_ (fun _ => ?_))
      | exact ih0 _
      | exact ih1 _
      | exact ih2 _
      | exact oob_Pack.mono _ _ _ _ _
      | exact oob_Unpack.mono _ _ _
      | exact strakelaw05_awake.mono _
      | exact LeO.none _
      | refine LeO.ite ?_ ?_
      | refine LeO.bind ?_ (fun _ => ?_)
theorem strakelaw05_OobLong.mono : ∀ a0 a1 a2 a3 a4 k, LeO (strakelaw05_OobLong.f k a0 a1 a2 a3 a4) (strakelaw05_OobLong.f (k + 1) a0 a1 a2 a3 a4) := by
  intro a0 a1 a2 a3 a4 k
  obtain ⟨ih0, ih1, ih2⟩ := strakelaw05_OobLong.mono_l k
  unfold strakelaw05_OobLong.f
  repeat' first
      | (with_reducible exact ih0 _)
      | (with_reducible exact ih1 _)
      | (with_reducible exact ih2 _)
      | (with_reducible exact oob_Pack.mono _ _ _ _ _)
      | (with_reducible exact oob_Unpack.mono _ _ _)
      | (with_reducible exact strakelaw05_awake.mono _)
      | (with_reducible exact LeO.refl _)
      | (with_reducible exact LeO.none _)
      | (with_reducible refine LeO.ite ?_ ?_)
      | (with_reducible refine LeO.bind ?_ (fun _ => ?_))
      | exact ih0 _
      | exact ih1 _
      | exact ih2 _
      | exact oob_Pack.mono _ _ _ _ _
      | exact oob_Unpack.mono _ _ _
      | exact strakelaw05_awake.mono _
      | exact LeO.none _
      | refine LeO.ite ?_ ?_
      | refine LeO.bind ?_ (fun _ => ?_)
set_option maxHeartbeats 8000000 in
set_option maxRecDepth 100000 in
theorem strakelaw05_OobLong.calls (k : Nat) (a0_0 : Int) (a0_1 : Int) (a0_2 : Int) (A1 : Option Addr) (c1 : Nat) (l1 : List Int) (A2 : Option Addr) (c2 : Nat) (l2 : List Int) (r : Bool) (w : World) (hr1 : Kd.C (Kd.int .u8) w A1 l1.length l1) (hc1 : l1.length ≤ c1) (hr2 : Kd.C (Kd.int .u8) w A2 l2.length l2) (hc2 : l2.length ≤ c2) (h : strakelaw05_OobLong.f k a0_0 a0_1 a0_2 l1 l2 = some r) :
    Calls Try.prog 14 #[.agg #[.int .i64 a0_0, .int .i64 a0_1, .int .i64 a0_2], .slice A1 l1.length c1, .slice A2 l2.length c2] w fun e w' => e = .returned (.bool r) ∧ Below w.heap.size w w' := by
  have hu31 := Try.underlying31
  have HR1 := Aside0.mk hr1
  have HC1 := Aside0.mk hc1
  clear hr1 hc1
  have HR2 := Aside0.mk hr2
  have HC2 := Aside0.mk hc2
  clear hr2 hc2
  have HB := Aside0.mk (Below.refl w.heap.size w)
  have H : ((strakelaw05_awake.f k).bind fun t496 => (if (l2.length : Int) > 1000 then (some t496) else ((oob_Pack.f k a0_0 a0_1 a0_2 l1).bind fun bt497 => (if bt497.2 = 0 then ((some (([] : List Int) : List Int)).bind fun y501 => (if y501.length + bt497.1.length < 140737488355328 then ((some (y501 ++ bt497.1 : List Int)).bind fun y504 => (if y504.length + l2.length < 140737488355328 then ((oob_Unpack.f k (y504 ++ l2) l1).bind fun bt510 => ((some (([] : List Int) : List Int)).bind fun y515 => (if y515.length + l1.length < 140737488355328 then ((some (y515 ++ l1 : List Int)).bind fun y518 => (if y518.length + l2.length < 140737488355328 then ((oob_Unpack.f k bt497.1 (y518 ++ l2)).bind fun bt524 => (if (l2.length : Int) = 0 then (if t496 = true then (if (bt510.1 == a0_0 && (bt510.2.1 == a0_1 && (bt510.2.2.1 == a0_2))) = true then (strakelaw05_OobLong.j1 k (bt524.1 == a0_0 && (bt524.2.1 == a0_1 && (bt524.2.2.1 == a0_2)))) else (strakelaw05_OobLong.j1 k false)) else (strakelaw05_OobLong.j1 k false)) else (if t496 = true then (if bt510.2.2.2 = 3 then (if bt524.2.2.2 = 3 then (if (bt510.1 == 0 && (bt510.2.1 == 0 && (bt510.2.2.1 == 0))) = true then (strakelaw05_OobLong.j2 k (bt524.1 == 0 && (bt524.2.1 == 0 && (bt524.2.2.1 == 0)))) else (strakelaw05_OobLong.j2 k false)) else (strakelaw05_OobLong.j2 k false)) else (strakelaw05_OobLong.j2 k false)) else (strakelaw05_OobLong.j2 k false)))) else (none))) else (none)))) else (none))) else (none))) else (if t496 = true then (if bt497.2 = 1 then (strakelaw05_OobLong.j0 k ((bt497.1.length : Int) == 0)) else (strakelaw05_OobLong.j0 k false)) else (strakelaw05_OobLong.j0 k false)))))) = some r := h
  clear h
  replace H := Option.bind_eq_some_iff.mp H
  obtain ⟨t496, A40, H⟩ := H
  replace H : (if (l2.length : Int) > 1000 then (some t496) else ((oob_Pack.f k a0_0 a0_1 a0_2 l1).bind fun bt497 => (if bt497.2 = 0 then ((some (([] : List Int) : List Int)).bind fun y501 => (if y501.length + bt497.1.length < 140737488355328 then ((some (y501 ++ bt497.1 : List Int)).bind fun y504 => (if y504.length + l2.length < 140737488355328 then ((oob_Unpack.f k (y504 ++ l2) l1).bind fun bt510 => ((some (([] : List Int) : List Int)).bind fun y515 => (if y515.length + l1.length < 140737488355328 then ((some (y515 ++ l1 : List Int)).bind fun y518 => (if y518.length + l2.length < 140737488355328 then ((oob_Unpack.f k bt497.1 (y518 ++ l2)).bind fun bt524 => (if (l2.length : Int) = 0 then (if t496 = true then (if (bt510.1 == a0_0 && (bt510.2.1 == a0_1 && (bt510.2.2.1 == a0_2))) = true then (strakelaw05_OobLong.j1 k (bt524.1 == a0_0 && (bt524.2.1 == a0_1 && (bt524.2.2.1 == a0_2)))) else (strakelaw05_OobLong.j1 k false)) else (strakelaw05_OobLong.j1 k false)) else (if t496 = true then (if bt510.2.2.2 = 3 then (if bt524.2.2.2 = 3 then (if (bt510.1 == 0 && (bt510.2.1 == 0 && (bt510.2.2.1 == 0))) = true then (strakelaw05_OobLong.j2 k (bt524.1 == 0 && (bt524.2.1 == 0 && (bt524.2.2.1 == 0)))) else (strakelaw05_OobLong.j2 k false)) else (strakelaw05_OobLong.j2 k false)) else (strakelaw05_OobLong.j2 k false)) else (strakelaw05_OobLong.j2 k false)))) else (none))) else (none)))) else (none))) else (none))) else (if t496 = true then (if bt497.2 = 1 then (strakelaw05_OobLong.j0 k ((bt497.1.length : Int) == 0)) else (strakelaw05_OobLong.j0 k false)) else (strakelaw05_OobLong.j0 k false))))) = some r := H
  have A4 := Aside0.mk A40
  clear A40
  by_cases c5 : (l2.length : Int) > 1000
  · rw [if_pos c5] at H
    have c5b0 : decide (1000 < (l2.length : Int)) = true := decide_eq_true c5
    have c5b1 : decide (1000 < l2.length) = true := decide_eq_true (by omega)
    clear c5
    obtain rfl := Option.some.inj H
    go_enter Try.func14, Try.ntmps14
    go_wp2_with (first | ((with_reducible refine gate_dst (N := 3) rfl ?_); (try (refine gate_guard (by rfl) ?_; dsimp only)); refine box_event ?hg (N := 3) ?hd (cs := #[.int .i64 a0_0, .int .i64 a0_1, .int .i64 a0_2]) (t := 31) ?hr ?_; (case hd => rfl); (case hg => rfl); (case hr => first | (go_simp; done) | (go_simp; rfl)); intro gb495 hg w6 hbox hb; have n0_ := Aside0.mk (below_step (by repeat (first | (with_reducible first | exact HB.out | apply below_alloc | apply pw_below_drewN | apply below_drew1) | exact HB.out)) hb); have n1_ := Aside0.mk (hbox); have n2_ := Aside0.mk ((by rw [hg]; exact (below_size (by repeat (first | (with_reducible first | exact HB.out | apply below_alloc | apply pw_below_drewN | apply below_drew1) | exact HB.out))) : w.heap.size ≤ gb495)); have n3_ := Aside0.mk ((by rw [hg]; exact (below_size (by repeat (first | (with_reducible first | exact HB.out | apply below_alloc | apply pw_below_drewN | apply below_drew1) | exact HB.out))) : w.heap.size ≤ gb495)); clear HB; have HB := n0_; have BK495 := n1_; have GW495 := n2_; have GE495 := n3_; clear n0_ n1_ n2_ n3_; clear hb hbox hg) | ((with_reducible refine gate_callee (f := 22) rfl ?_); refine goesL_ (some 14) rfl rfl Try.func22 (by kernel_rfl) rfl #[] rfl (by (try simp only [List.map_toArray, List.map_cons, List.map_nil]); first | done | rfl | (simp only [List.length_drop, List.length_take]; rfl)) ?_; (with_reducible refine (strakelaw05_awake.calls k  t496 _ A4.out).mono ?_); rintro e w7 ⟨rfl, hb⟩; refine ⟨_, rfl, ?_⟩; have n0_ := Aside0.mk (blk_below (g := gb495) (o := .cells #[.int .i64 a0_0, .int .i64 a0_1, .int .i64 a0_2] 31 (0, 0)) (by (with_reducible repeat (first | refine blk_drewN ?_ _ | refine blk_drew ?_ | refine blk_alloc ?_ _)); exact BK495.out) hb); have n1_ := Aside0.mk (below_step (by repeat (first | (with_reducible first | exact HB.out | apply below_alloc | apply pw_below_drewN | apply below_drew1 | refine below_set ?_ GE495.out) | exact HB.out)) hb); clear BK495; clear HB; have BK495 := n0_; have HB := n1_; clear n0_ n1_; (try clear hb); (try clear hb2); (try clear hk); (try clear hi)))
    go_ret
    exact ⟨by first | rfl | (simp [errW_none, errW_some] <;> rfl) | (simp [*, errW_none, errW_some] <;> rfl), by repeat (first | (with_reducible first | exact HB.out | apply below_alloc | apply pw_below_drewN | apply below_drew1 | refine below_set ?_ GE495.out) | exact HB.out)⟩
  · rw [if_neg c5] at H
    have c5b0 : decide (1000 < (l2.length : Int)) = false := decide_eq_false c5
    have c5b1 : decide (1000 < l2.length) = false := decide_eq_false (by omega)
    clear c5
    replace H := Option.bind_eq_some_iff.mp H
    obtain ⟨⟨t497, t500⟩, A80, H⟩ := H
    replace H : (if t500 = 0 then ((some (([] : List Int) : List Int)).bind fun y501 => (if y501.length + t497.length < 140737488355328 then ((some (y501 ++ t497 : List Int)).bind fun y504 => (if y504.length + l2.length < 140737488355328 then ((oob_Unpack.f k (y504 ++ l2) l1).bind fun bt510 => ((some (([] : List Int) : List Int)).bind fun y515 => (if y515.length + l1.length < 140737488355328 then ((some (y515 ++ l1 : List Int)).bind fun y518 => (if y518.length + l2.length < 140737488355328 then ((oob_Unpack.f k t497 (y518 ++ l2)).bind fun bt524 => (if (l2.length : Int) = 0 then (if t496 = true then (if (bt510.1 == a0_0 && (bt510.2.1 == a0_1 && (bt510.2.2.1 == a0_2))) = true then (strakelaw05_OobLong.j1 k (bt524.1 == a0_0 && (bt524.2.1 == a0_1 && (bt524.2.2.1 == a0_2)))) else (strakelaw05_OobLong.j1 k false)) else (strakelaw05_OobLong.j1 k false)) else (if t496 = true then (if bt510.2.2.2 = 3 then (if bt524.2.2.2 = 3 then (if (bt510.1 == 0 && (bt510.2.1 == 0 && (bt510.2.2.1 == 0))) = true then (strakelaw05_OobLong.j2 k (bt524.1 == 0 && (bt524.2.1 == 0 && (bt524.2.2.1 == 0)))) else (strakelaw05_OobLong.j2 k false)) else (strakelaw05_OobLong.j2 k false)) else (strakelaw05_OobLong.j2 k false)) else (strakelaw05_OobLong.j2 k false)))) else (none))) else (none)))) else (none))) else (none))) else (if t496 = true then (if t500 = 1 then (strakelaw05_OobLong.j0 k ((t497.length : Int) == 0)) else (strakelaw05_OobLong.j0 k false)) else (strakelaw05_OobLong.j0 k false))) = some r := H
    have A8 := Aside0.mk A80
    clear A80
    by_cases c9 : t500 = 0
    · rw [if_pos c9] at H
      have c9b0 : (t500 == 0) = true := beq_iff_eq.mpr c9
      have c9b1 : (t500 != 0) = false := bne_eq_false_iff_eq.mpr c9
      clear c9
      obtain ⟨y501, hy501⟩ : ∃ y_ : List Int, y_ = (([] : List Int)) := ⟨_, rfl⟩
      replace H : (if y501.length + t497.length < 140737488355328 then ((some (y501 ++ t497 : List Int)).bind fun y504 => (if y504.length + l2.length < 140737488355328 then ((oob_Unpack.f k (y504 ++ l2) l1).bind fun bt510 => ((some (([] : List Int) : List Int)).bind fun y515 => (if y515.length + l1.length < 140737488355328 then ((some (y515 ++ l1 : List Int)).bind fun y518 => (if y518.length + l2.length < 140737488355328 then ((oob_Unpack.f k t497 (y518 ++ l2)).bind fun bt524 => (if (l2.length : Int) = 0 then (if t496 = true then (if (bt510.1 == a0_0 && (bt510.2.1 == a0_1 && (bt510.2.2.1 == a0_2))) = true then (strakelaw05_OobLong.j1 k (bt524.1 == a0_0 && (bt524.2.1 == a0_1 && (bt524.2.2.1 == a0_2)))) else (strakelaw05_OobLong.j1 k false)) else (strakelaw05_OobLong.j1 k false)) else (if t496 = true then (if bt510.2.2.2 = 3 then (if bt524.2.2.2 = 3 then (if (bt510.1 == 0 && (bt510.2.1 == 0 && (bt510.2.2.1 == 0))) = true then (strakelaw05_OobLong.j2 k (bt524.1 == 0 && (bt524.2.1 == 0 && (bt524.2.2.1 == 0)))) else (strakelaw05_OobLong.j2 k false)) else (strakelaw05_OobLong.j2 k false)) else (strakelaw05_OobLong.j2 k false)) else (strakelaw05_OobLong.j2 k false)))) else (none))) else (none)))) else (none))) else (none)) = some r := by first | (rw [hy501]; with_reducible exact H) | (have H2_ := (Option.bind_some _ _).symm.trans H; rw [hy501]; with_reducible exact H2_) | (have H2_ := (Option.bind_some _ _).symm.trans H; with_reducible exact H2_) | with_reducible exact H | (rw [hy501]; exact H) | exact H
      have Ny501 := Aside0.mk hy501
      clear hy501
      by_cases c10 : y501.length + t497.length < 140737488355328
      · rw [if_pos c10] at H
        have LMc10 := Aside0.mk c10
        clear c10
        obtain ⟨y504, hy504⟩ : ∃ y_ : List Int, y_ = (y501 ++ t497) := ⟨_, rfl⟩
        replace H : (if y504.length + l2.length < 140737488355328 then ((oob_Unpack.f k (y504 ++ l2) l1).bind fun bt510 => ((some (([] : List Int) : List Int)).bind fun y515 => (if y515.length + l1.length < 140737488355328 then ((some (y515 ++ l1 : List Int)).bind fun y518 => (if y518.length + l2.length < 140737488355328 then ((oob_Unpack.f k t497 (y518 ++ l2)).bind fun bt524 => (if (l2.length : Int) = 0 then (if t496 = true then (if (bt510.1 == a0_0 && (bt510.2.1 == a0_1 && (bt510.2.2.1 == a0_2))) = true then (strakelaw05_OobLong.j1 k (bt524.1 == a0_0 && (bt524.2.1 == a0_1 && (bt524.2.2.1 == a0_2)))) else (strakelaw05_OobLong.j1 k false)) else (strakelaw05_OobLong.j1 k false)) else (if t496 = true then (if bt510.2.2.2 = 3 then (if bt524.2.2.2 = 3 then (if (bt510.1 == 0 && (bt510.2.1 == 0 && (bt510.2.2.1 == 0))) = true then (strakelaw05_OobLong.j2 k (bt524.1 == 0 && (bt524.2.1 == 0 && (bt524.2.2.1 == 0)))) else (strakelaw05_OobLong.j2 k false)) else (strakelaw05_OobLong.j2 k false)) else (strakelaw05_OobLong.j2 k false)) else (strakelaw05_OobLong.j2 k false)))) else (none))) else (none)))) else (none)) = some r := by first | (rw [hy504]; with_reducible exact H) | (have H2_ := (Option.bind_some _ _).symm.trans H; rw [hy504]; with_reducible exact H2_) | (have H2_ := (Option.bind_some _ _).symm.trans H; with_reducible exact H2_) | with_reducible exact H | (rw [hy504]; exact H) | exact H
        have Ny504 := Aside0.mk hy504
        clear hy504
        by_cases c11 : y504.length + l2.length < 140737488355328
        · rw [if_pos c11] at H
          have LMc11 := Aside0.mk c11
          clear c11
          obtain ⟨y507, hy507⟩ : ∃ y_ : List Int, y_ = (y504 ++ l2) := ⟨_, rfl⟩
          replace H : ((oob_Unpack.f k y507 l1).bind fun bt510 => ((some (([] : List Int) : List Int)).bind fun y515 => (if y515.length + l1.length < 140737488355328 then ((some (y515 ++ l1 : List Int)).bind fun y518 => (if y518.length + l2.length < 140737488355328 then ((oob_Unpack.f k t497 (y518 ++ l2)).bind fun bt524 => (if (l2.length : Int) = 0 then (if t496 = true then (if (bt510.1 == a0_0 && (bt510.2.1 == a0_1 && (bt510.2.2.1 == a0_2))) = true then (strakelaw05_OobLong.j1 k (bt524.1 == a0_0 && (bt524.2.1 == a0_1 && (bt524.2.2.1 == a0_2)))) else (strakelaw05_OobLong.j1 k false)) else (strakelaw05_OobLong.j1 k false)) else (if t496 = true then (if bt510.2.2.2 = 3 then (if bt524.2.2.2 = 3 then (if (bt510.1 == 0 && (bt510.2.1 == 0 && (bt510.2.2.1 == 0))) = true then (strakelaw05_OobLong.j2 k (bt524.1 == 0 && (bt524.2.1 == 0 && (bt524.2.2.1 == 0)))) else (strakelaw05_OobLong.j2 k false)) else (strakelaw05_OobLong.j2 k false)) else (strakelaw05_OobLong.j2 k false)) else (strakelaw05_OobLong.j2 k false)))) else (none))) else (none)))) = some r := by first | (rw [hy507]; with_reducible exact H) | (have H2_ := (Option.bind_some _ _).symm.trans H; rw [hy507]; with_reducible exact H2_) | (have H2_ := (Option.bind_some _ _).symm.trans H; with_reducible exact H2_) | with_reducible exact H | (rw [hy507]; exact H) | exact H
          have Ny507 := Aside0.mk hy507
          clear hy507
          replace H := Option.bind_eq_some_iff.mp H
          obtain ⟨⟨t510, t511, t512, t513⟩, A120, H⟩ := H
          replace H : ((some (([] : List Int) : List Int)).bind fun y515 => (if y515.length + l1.length < 140737488355328 then ((some (y515 ++ l1 : List Int)).bind fun y518 => (if y518.length + l2.length < 140737488355328 then ((oob_Unpack.f k t497 (y518 ++ l2)).bind fun bt524 => (if (l2.length : Int) = 0 then (if t496 = true then (if (t510 == a0_0 && (t511 == a0_1 && (t512 == a0_2))) = true then (strakelaw05_OobLong.j1 k (bt524.1 == a0_0 && (bt524.2.1 == a0_1 && (bt524.2.2.1 == a0_2)))) else (strakelaw05_OobLong.j1 k false)) else (strakelaw05_OobLong.j1 k false)) else (if t496 = true then (if t513 = 3 then (if bt524.2.2.2 = 3 then (if (t510 == 0 && (t511 == 0 && (t512 == 0))) = true then (strakelaw05_OobLong.j2 k (bt524.1 == 0 && (bt524.2.1 == 0 && (bt524.2.2.1 == 0)))) else (strakelaw05_OobLong.j2 k false)) else (strakelaw05_OobLong.j2 k false)) else (strakelaw05_OobLong.j2 k false)) else (strakelaw05_OobLong.j2 k false)))) else (none))) else (none))) = some r := H
          have A12 := Aside0.mk A120
          clear A120
          obtain ⟨y515, hy515⟩ : ∃ y_ : List Int, y_ = (([] : List Int)) := ⟨_, rfl⟩
          replace H : (if y515.length + l1.length < 140737488355328 then ((some (y515 ++ l1 : List Int)).bind fun y518 => (if y518.length + l2.length < 140737488355328 then ((oob_Unpack.f k t497 (y518 ++ l2)).bind fun bt524 => (if (l2.length : Int) = 0 then (if t496 = true then (if (t510 == a0_0 && (t511 == a0_1 && (t512 == a0_2))) = true then (strakelaw05_OobLong.j1 k (bt524.1 == a0_0 && (bt524.2.1 == a0_1 && (bt524.2.2.1 == a0_2)))) else (strakelaw05_OobLong.j1 k false)) else (strakelaw05_OobLong.j1 k false)) else (if t496 = true then (if t513 = 3 then (if bt524.2.2.2 = 3 then (if (t510 == 0 && (t511 == 0 && (t512 == 0))) = true then (strakelaw05_OobLong.j2 k (bt524.1 == 0 && (bt524.2.1 == 0 && (bt524.2.2.1 == 0)))) else (strakelaw05_OobLong.j2 k false)) else (strakelaw05_OobLong.j2 k false)) else (strakelaw05_OobLong.j2 k false)) else (strakelaw05_OobLong.j2 k false)))) else (none))) else (none)) = some r := by first | (rw [hy515]; with_reducible exact H) | (have H2_ := (Option.bind_some _ _).symm.trans H; rw [hy515]; with_reducible exact H2_) | (have H2_ := (Option.bind_some _ _).symm.trans H; with_reducible exact H2_) | with_reducible exact H | (rw [hy515]; exact H) | exact H
          have Ny515 := Aside0.mk hy515
          clear hy515
          by_cases c13 : y515.length + l1.length < 140737488355328
          · rw [if_pos c13] at H
            have LMc13 := Aside0.mk c13
            clear c13
            obtain ⟨y518, hy518⟩ : ∃ y_ : List Int, y_ = (y515 ++ l1) := ⟨_, rfl⟩
            replace H : (if y518.length + l2.length < 140737488355328 then ((oob_Unpack.f k t497 (y518 ++ l2)).bind fun bt524 => (if (l2.length : Int) = 0 then (if t496 = true then (if (t510 == a0_0 && (t511 == a0_1 && (t512 == a0_2))) = true then (strakelaw05_OobLong.j1 k (bt524.1 == a0_0 && (bt524.2.1 == a0_1 && (bt524.2.2.1 == a0_2)))) else (strakelaw05_OobLong.j1 k false)) else (strakelaw05_OobLong.j1 k false)) else (if t496 = true then (if t513 = 3 then (if bt524.2.2.2 = 3 then (if (t510 == 0 && (t511 == 0 && (t512 == 0))) = true then (strakelaw05_OobLong.j2 k (bt524.1 == 0 && (bt524.2.1 == 0 && (bt524.2.2.1 == 0)))) else (strakelaw05_OobLong.j2 k false)) else (strakelaw05_OobLong.j2 k false)) else (strakelaw05_OobLong.j2 k false)) else (strakelaw05_OobLong.j2 k false)))) else (none)) = some r := by first | (rw [hy518]; with_reducible exact H) | (have H2_ := (Option.bind_some _ _).symm.trans H; rw [hy518]; with_reducible exact H2_) | (have H2_ := (Option.bind_some _ _).symm.trans H; with_reducible exact H2_) | with_reducible exact H | (rw [hy518]; exact H) | exact H
            have Ny518 := Aside0.mk hy518
            clear hy518
            by_cases c14 : y518.length + l2.length < 140737488355328
            · rw [if_pos c14] at H
              have LMc14 := Aside0.mk c14
              clear c14
              obtain ⟨y521, hy521⟩ : ∃ y_ : List Int, y_ = (y518 ++ l2) := ⟨_, rfl⟩
              replace H : ((oob_Unpack.f k t497 y521).bind fun bt524 => (if (l2.length : Int) = 0 then (if t496 = true then (if (t510 == a0_0 && (t511 == a0_1 && (t512 == a0_2))) = true then (strakelaw05_OobLong.j1 k (bt524.1 == a0_0 && (bt524.2.1 == a0_1 && (bt524.2.2.1 == a0_2)))) else (strakelaw05_OobLong.j1 k false)) else (strakelaw05_OobLong.j1 k false)) else (if t496 = true then (if t513 = 3 then (if bt524.2.2.2 = 3 then (if (t510 == 0 && (t511 == 0 && (t512 == 0))) = true then (strakelaw05_OobLong.j2 k (bt524.1 == 0 && (bt524.2.1 == 0 && (bt524.2.2.1 == 0)))) else (strakelaw05_OobLong.j2 k false)) else (strakelaw05_OobLong.j2 k false)) else (strakelaw05_OobLong.j2 k false)) else (strakelaw05_OobLong.j2 k false)))) = some r := by first | (rw [hy521]; with_reducible exact H) | (have H2_ := (Option.bind_some _ _).symm.trans H; rw [hy521]; with_reducible exact H2_) | (have H2_ := (Option.bind_some _ _).symm.trans H; with_reducible exact H2_) | with_reducible exact H | (rw [hy521]; exact H) | exact H
              have Ny521 := Aside0.mk hy521
              clear hy521
              replace H := Option.bind_eq_some_iff.mp H
              obtain ⟨⟨t524, t525, t526, t527⟩, A150, H⟩ := H
              replace H : (if (l2.length : Int) = 0 then (if t496 = true then (if (t510 == a0_0 && (t511 == a0_1 && (t512 == a0_2))) = true then (strakelaw05_OobLong.j1 k (t524 == a0_0 && (t525 == a0_1 && (t526 == a0_2)))) else (strakelaw05_OobLong.j1 k false)) else (strakelaw05_OobLong.j1 k false)) else (if t496 = true then (if t513 = 3 then (if t527 = 3 then (if (t510 == 0 && (t511 == 0 && (t512 == 0))) = true then (strakelaw05_OobLong.j2 k (t524 == 0 && (t525 == 0 && (t526 == 0)))) else (strakelaw05_OobLong.j2 k false)) else (strakelaw05_OobLong.j2 k false)) else (strakelaw05_OobLong.j2 k false)) else (strakelaw05_OobLong.j2 k false))) = some r := H
              have A15 := Aside0.mk A150
              clear A150
              by_cases c16 : (l2.length : Int) = 0
              · rw [if_pos c16] at H
                have c16b0 : ((l2.length : Int) == 0) = true := beq_iff_eq.mpr c16
                have c16b1 : ((l2.length : Int) != 0) = false := bne_eq_false_iff_eq.mpr c16
                clear c16
                have HC17 := Aside0.mk H
                clear H
                go_enter Try.func14, Try.ntmps14
                go_upto_region 10 with (first | ((with_reducible refine gate_dst (N := 3) rfl ?_); (try (refine gate_guard (by rfl) ?_; dsimp only)); refine box_event ?hg (N := 3) ?hd (cs := #[.int .i64 a0_0, .int .i64 a0_1, .int .i64 a0_2]) (t := 31) ?hr ?_; (case hd => rfl); (case hg => rfl); (case hr => first | (go_simp; done) | (go_simp; rfl)); intro gb495 hg w18 hbox hb; have n0_ := Aside0.mk (below_step (by repeat (first | (with_reducible first | exact HB.out | apply below_alloc | apply pw_below_drewN | apply below_drew1) | exact HB.out)) hb); have n1_ := Aside0.mk (hbox); have n2_ := Aside0.mk ((by rw [hg]; exact (below_size (by repeat (first | (with_reducible first | exact HB.out | apply below_alloc | apply pw_below_drewN | apply below_drew1) | exact HB.out))) : w.heap.size ≤ gb495)); have n3_ := Aside0.mk ((by rw [hg]; exact (below_size (by repeat (first | (with_reducible first | exact HB.out | apply below_alloc | apply pw_below_drewN | apply below_drew1) | exact HB.out))) : w.heap.size ≤ gb495)); clear HB; have HB := n0_; have BK495 := n1_; have GW495 := n2_; have GE495 := n3_; clear n0_ n1_ n2_ n3_; clear hb hbox hg) | ((with_reducible refine gate_callee (f := 22) rfl ?_); refine goesL_ (some 14) rfl rfl Try.func22 (by kernel_rfl) rfl #[] rfl (by (try simp only [List.map_toArray, List.map_cons, List.map_nil]); first | done | rfl | (simp only [List.length_drop, List.length_take]; rfl)) ?_; (with_reducible refine (strakelaw05_awake.calls k  t496 _ A4.out).mono ?_); rintro e w19 ⟨rfl, hb⟩; refine ⟨_, rfl, ?_⟩; have n0_ := Aside0.mk (blk_below (g := gb495) (o := .cells #[.int .i64 a0_0, .int .i64 a0_1, .int .i64 a0_2] 31 (0, 0)) (by (with_reducible repeat (first | refine blk_drewN ?_ _ | refine blk_drew ?_ | refine blk_alloc ?_ _)); exact BK495.out) hb); have n1_ := Aside0.mk (below_step (by repeat (first | (with_reducible first | exact HB.out | apply below_alloc | apply pw_below_drewN | apply below_drew1 | refine below_set ?_ GE495.out) | exact HB.out)) hb); clear BK495; clear HB; have BK495 := n0_; have HB := n1_; clear n0_ n1_; (try clear hb); (try clear hb2); (try clear hk); (try clear hi); have hcz20_0 : w19.cell? ⟨gb495, 0, none⟩ = some (.int .i64 a0_0) := (blk_cell BK495.out 0).trans rfl; have hcz20_1 : w19.cell? ⟨gb495, 1, none⟩ = some (.int .i64 a0_1) := (blk_cell BK495.out 1).trans rfl; have hcz20_2 : w19.cell? ⟨gb495, 2, none⟩ = some (.int .i64 a0_2) := (blk_cell BK495.out 2).trans rfl; have hfz20_0 := blk_frozen BK495.out 0; have hfz20_1 := blk_frozen BK495.out 1; have hfz20_2 := blk_frozen BK495.out 2) | ((with_reducible refine gate_callee (f := 23) rfl ?_); refine goesL_ (some 22) rfl rfl Try.func23 (by kernel_rfl) rfl #[.agg #[.int .i64 a0_0, .int .i64 a0_1, .int .i64 a0_2], .slice A1 l1.length c1] rfl (by (try simp only [List.map_toArray, List.map_cons, List.map_nil]); first | done | rfl | (simp only [List.length_drop, List.length_take]; rfl)) ?_; (with_reducible refine (oob_Pack.calls k a0_0 a0_1 a0_2 _ _ l1 t497 t500 _ ?side1 ?side2 A8.out).mono ?_); (case side1 => repeat (first | exact (Kd.C_below HR1.out HB.out) | (with_reducible refine Kd.C_alloc ?_ _) | (with_reducible refine Kd.C_drewN ?_ _) | (with_reducible refine Kd.C_drew ?_))); (case side2 => exact HC1.out); rintro e w21 ⟨v498, rfl, ho0, hb⟩; refine ⟨_, rfl, ?_⟩; have n0_ := Aside0.mk (Kd.R_lower ho0 (below_size (by repeat (first | (with_reducible first | exact HB.out | apply below_alloc | apply pw_below_drewN | apply below_drew1 | refine below_set ?_ GE495.out) | exact HB.out)))); have n1_ := Aside0.mk (blk_below (g := gb495) (o := .cells #[.int .i64 a0_0, .int .i64 a0_1, .int .i64 a0_2] 31 (0, 0)) (by (with_reducible repeat (first | refine blk_drewN ?_ _ | refine blk_drew ?_ | refine blk_alloc ?_ _)); exact BK495.out) hb); have n2_ := Aside0.mk (below_step (by repeat (first | (with_reducible first | exact HB.out | apply below_alloc | apply pw_below_drewN | apply below_drew1 | refine below_set ?_ GE495.out) | exact HB.out)) hb); clear BK495; clear HB; have HO499 := n0_; have BK495 := n1_; have HB := n2_; clear n0_ n1_ n2_; (try clear hb); (try clear hb2); (try clear hk); (try clear hi); (try clear ho0)) | ((with_reducible refine gate_dst (N := 38) rfl ?_); (try (refine gate_guard (by rfl) ?_; dsimp only)); refine Kd.R_lit (Kd.int .u8) _ 5 ?hg (N := 38) ?hd (xs := ([] : List Int)) (inner := []) (ok := fun _ => True) (okp := fun _ => True) ?hr ?hp (fun _ hk => hk) trivial (Below.refl _ _) (Nat.le_refl _) (by simp) ?_; (case hd => rfl); (case hg => rfl); (case hr => first | (go_simp; done) | (go_simp; rfl)); (case hp => exact (Reps.none _ _)); intro v502 w22 ho23 hb hg_ hnew_; clear hg_ hnew_; (first | rw [← Ny501.out] at ho23 | (simp only [Int.reduceToNat] at ho23; rw [← Ny501.out] at ho23)); have n0_ := Aside0.mk (Kd.R_elder' (by (with_reducible repeat (first | apply Kd.R_alloc | apply Kd.R_drewN | apply Kd.R_drew)); exact HO499.out) (Kd.R_base ho23) hb); have n1_ := Aside0.mk (Kd.R_lower (Kd.R_new' ho23 (Kd.R_lt (by (with_reducible repeat (first | apply Kd.R_alloc | apply Kd.R_drewN | apply Kd.R_drew)); exact HO499.out))) (below_size (by repeat (first | (with_reducible first | exact HB.out | apply below_alloc | apply pw_below_drewN | apply below_drew1 | refine below_set ?_ GE495.out) | exact HB.out)))); have n2_ := Aside0.mk (blk_below (g := gb495) (o := .cells #[.int .i64 a0_0, .int .i64 a0_1, .int .i64 a0_2] 31 (0, 0)) (by (with_reducible repeat (first | refine blk_drewN ?_ _ | refine blk_drew ?_ | refine blk_alloc ?_ _)); exact BK495.out) hb); have n3_ := Aside0.mk (below_step (by repeat (first | (with_reducible first | exact HB.out | apply below_alloc | apply pw_below_drewN | apply below_drew1 | refine below_set ?_ GE495.out) | exact HB.out)) hb); clear HO499; clear BK495; clear HB; have HO499 := n0_; have HO503 := n1_; have BK495 := n2_; have HB := n3_; clear n0_ n1_ n2_ n3_; clear hb ho23; obtain ⟨Ao25, co25, eo25⟩ := Kd.R_slice HO499.out; subst eo25) | ((with_reducible refine gate_builtin (b := .append) (xs := #[.tmp 38, .tmp 39]) rfl ?_); (try (refine gate_guard (by rfl) ?_; dsimp only)); at_builtin; refine Kd.R_append_rows (Kd.int .u8) (w0 := w) w.heap.size rfl (.tmp 38) (.tmp 39) 25 5 (.int .u8 0) 1 rfl Try.underlying25 info5 rfl (by decide) (by omega) v502 y501 t497 _ _ _ (fun k_ => some k_ ≠ (.slice Ao25 t497.length co25 : Value).ownBlock) (fun _ => False) rfl rfl ?aO ?aR (fun _ _ h => h) (fun _ h => h.elim) ?aF ?aB ?aS ?aL ?_; (case aR => repeat (first | exact (Kd.R_reads' HO499.out).2.2 | (with_reducible refine Kd.C_alloc ?_ _) | (with_reducible refine Kd.C_drewN ?_ _) | (with_reducible refine Kd.C_drew ?_))); (case aB => exact (by repeat (first | (with_reducible first | exact HB.out | apply below_alloc | apply pw_below_drewN | apply below_drew1 | refine below_set ?_ GE495.out) | exact HB.out))); (case aF => exact (fun k_ hk => Kd.fresh' (Kd.R_lt (by (with_reducible repeat (first | apply Kd.R_alloc | apply Kd.R_drewN | apply Kd.R_drew)); exact HO499.out)) k_ hk)); (case aO => exact (by (with_reducible repeat (first | apply Kd.R_alloc | apply Kd.R_drewN | apply Kd.R_drew)); exact Kd.R_mono HO503.out (fun _ hk => hk.2))); (case aS => exact (below_size (by repeat (first | (with_reducible first | exact HB.out | apply below_alloc | apply pw_below_drewN | apply below_drew1 | refine below_set ?_ GE495.out) | exact HB.out)))); (case aL => have := LMc10.out; omega); intro v505 w24 ho hb hg hat; rw [← Ny504.out] at ho; have n0_ := Aside0.mk (blk_grown (g := gb495) (o := .cells #[.int .i64 a0_0, .int .i64 a0_1, .int .i64 a0_2] 31 (0, 0)) (by (with_reducible repeat (first | refine blk_drewN ?_ _ | refine blk_drew ?_ | refine blk_alloc ?_ _)); exact BK495.out) hg (Kd.R_ne HO503.out BK495.out (by decide))); have n1_ := Aside0.mk (Kd.R_after (ok := (fun _ => True)) (by (with_reducible repeat (first | apply Kd.R_alloc | apply Kd.R_drewN | apply Kd.R_drew)); exact HO499.out) hg hat); have n2_ := Aside0.mk (hb); have n3_ := Aside0.mk (ho); clear BK495; clear HO499; clear HB; clear HO503; have BK495 := n0_; have HO499 := n1_; have HB := n2_; have HO506 := n3_; clear n0_ n1_ n2_ n3_; clear ho hb hg hat) | ((with_reducible refine gate_builtin (b := .append) (xs := #[.tmp 40, .tmp 41]) rfl ?_); (try (refine gate_guard (by rfl) ?_; dsimp only)); at_builtin; refine Kd.R_append_rows (Kd.int .u8) (w0 := w) w.heap.size rfl (.tmp 40) (.tmp 41) 25 5 (.int .u8 0) 1 rfl Try.underlying25 info5 rfl (by decide) (by omega) v505 y504 l2 _ _ _ (fun k_ => some k_ ≠ (.slice Ao25 t497.length co25 : Value).ownBlock) (fun _ => False) rfl rfl ?aO ?aR (fun _ _ h => h) (fun _ h => h.elim) ?aF ?aB ?aS ?aL ?_; (case aR => repeat (first | exact (Kd.C_below HR2.out HB.out) | (with_reducible refine Kd.C_alloc ?_ _) | (with_reducible refine Kd.C_drewN ?_ _) | (with_reducible refine Kd.C_drew ?_))); (case aB => exact (by repeat (first | (with_reducible first | exact HB.out | apply below_alloc | apply pw_below_drewN | apply below_drew1 | refine below_set ?_ GE495.out) | exact HB.out))); (case aF => exact (fun k_ hk => Kd.fresh' (Kd.R_lt (by (with_reducible repeat (first | apply Kd.R_alloc | apply Kd.R_drewN | apply Kd.R_drew)); exact HO499.out)) k_ hk)); (case aO => exact (by (with_reducible repeat (first | apply Kd.R_alloc | apply Kd.R_drewN | apply Kd.R_drew)); exact HO506.out)); (case aS => exact (below_size (by repeat (first | (with_reducible first | exact HB.out | apply below_alloc | apply pw_below_drewN | apply below_drew1 | refine below_set ?_ GE495.out) | exact HB.out)))); (case aL => have := LMc11.out; omega); intro v508 w26 ho hb hg hat; rw [← Ny507.out] at ho; have n0_ := Aside0.mk (blk_grown (g := gb495) (o := .cells #[.int .i64 a0_0, .int .i64 a0_1, .int .i64 a0_2] 31 (0, 0)) (by (with_reducible repeat (first | refine blk_drewN ?_ _ | refine blk_drew ?_ | refine blk_alloc ?_ _)); exact BK495.out) hg (Kd.R_ne HO506.out BK495.out (by decide))); have n1_ := Aside0.mk (Kd.R_after (ok := (fun _ => True)) (by (with_reducible repeat (first | apply Kd.R_alloc | apply Kd.R_drewN | apply Kd.R_drew)); exact HO499.out) hg hat); have n2_ := Aside0.mk (hb); have n3_ := Aside0.mk (ho); clear BK495; clear HO499; clear HB; clear HO506; have BK495 := n0_; have HO499 := n1_; have HB := n2_; have HO509 := n3_; clear n0_ n1_ n2_ n3_; clear ho hb hg hat; obtain ⟨Ao27, co27, eo27⟩ := Kd.R_slice HO509.out; subst eo27) | ((with_reducible refine gate_callee (f := 30) rfl ?_); refine goesL_ (some 44) rfl rfl Try.func30 (by kernel_rfl) rfl #[.slice Ao27 y507.length co27, .slice A1 l1.length c1] rfl (by (try simp only [List.map_toArray, List.map_cons, List.map_nil]); first | done | rfl | (simp only [List.length_drop, List.length_take]; rfl)) ?_; (with_reducible refine (oob_Unpack.calls k _ _ y507 _ _ l1 t510 t511 t512 t513 _ ?side1 ?side2 ?side3 ?side4 A12.out).mono ?_); (case side1 => repeat (first | exact (Kd.R_reads' HO509.out).2.2 | (with_reducible refine Kd.C_alloc ?_ _) | (with_reducible refine Kd.C_drewN ?_ _) | (with_reducible refine Kd.C_drew ?_))); (case side2 => exact (Kd.R_reads' HO509.out).2.1); (case side3 => repeat (first | exact (Kd.C_below HR1.out HB.out) | (with_reducible refine Kd.C_alloc ?_ _) | (with_reducible refine Kd.C_drewN ?_ _) | (with_reducible refine Kd.C_drew ?_))); (case side4 => exact HC1.out); rintro e w28 ⟨rfl, hb⟩; refine ⟨_, rfl, ?_⟩; have n0_ := Aside0.mk (Kd.R_below (by (with_reducible repeat (first | apply Kd.R_alloc | apply Kd.R_drewN | apply Kd.R_drew)); exact HO499.out) hb); have n1_ := Aside0.mk (Kd.R_below (by (with_reducible repeat (first | apply Kd.R_alloc | apply Kd.R_drewN | apply Kd.R_drew)); exact HO509.out) hb); have n2_ := Aside0.mk (blk_below (g := gb495) (o := .cells #[.int .i64 a0_0, .int .i64 a0_1, .int .i64 a0_2] 31 (0, 0)) (by (with_reducible repeat (first | refine blk_drewN ?_ _ | refine blk_drew ?_ | refine blk_alloc ?_ _)); exact BK495.out) hb); have n3_ := Aside0.mk (below_step (by repeat (first | (with_reducible first | exact HB.out | apply below_alloc | apply pw_below_drewN | apply below_drew1 | refine below_set ?_ GE495.out) | exact HB.out)) hb); clear HO499; clear HO509; clear BK495; clear HB; have HO499 := n0_; have HO509 := n1_; have BK495 := n2_; have HB := n3_; clear n0_ n1_ n2_ n3_; (try clear hb); (try clear hb2); (try clear hk); (try clear hi)) | ((with_reducible refine gate_dst (N := 10) rfl ?_); (try (refine gate_guard (by rfl) ?_; dsimp only)); refine box_event ?hg (N := 10) ?hd (cs := #[.int .i64 0, .int .i64 0, .int .i64 0]) (t := 31) ?hr ?_; (case hd => rfl); (case hg => rfl); (case hr => first | (go_simp; done) | (go_simp; rfl)); intro gb514 hg w29 hbox hb; have n0_ := Aside0.mk (Kd.R_below (by (with_reducible repeat (first | apply Kd.R_alloc | apply Kd.R_drewN | apply Kd.R_drew)); exact HO499.out) hb); have n1_ := Aside0.mk (Kd.R_below (by (with_reducible repeat (first | apply Kd.R_alloc | apply Kd.R_drewN | apply Kd.R_drew)); exact HO509.out) hb); have n2_ := Aside0.mk (blk_below (g := gb495) (o := .cells #[.int .i64 a0_0, .int .i64 a0_1, .int .i64 a0_2] 31 (0, 0)) (by (with_reducible repeat (first | refine blk_drewN ?_ _ | refine blk_drew ?_ | refine blk_alloc ?_ _)); exact BK495.out) hb); have n3_ := Aside0.mk (below_step (by repeat (first | (with_reducible first | exact HB.out | apply below_alloc | apply pw_below_drewN | apply below_drew1 | refine below_set ?_ GE495.out) | exact HB.out)) hb); have n4_ := Aside0.mk (hbox); have n5_ := Aside0.mk ((by rw [hg]; exact (below_size (by repeat (first | (with_reducible first | exact HB.out | apply below_alloc | apply pw_below_drewN | apply below_drew1 | refine below_set ?_ GE495.out) | exact HB.out))) : w.heap.size ≤ gb514)); have n6_ := Aside0.mk ((by rw [hg]; exact (below_size (by repeat (first | (with_reducible first | exact HB.out | apply below_alloc | apply pw_below_drewN | apply below_drew1 | refine below_set ?_ GE495.out) | exact HB.out))) : w.heap.size ≤ gb514)); have n7_ := Aside0.mk ((by rw [hg]; exact Nat.ne_of_lt (blk_lt (g := gb495) (o := .cells #[.int .i64 a0_0, .int .i64 a0_1, .int .i64 a0_2] 31 (0, 0)) (by (with_reducible repeat (first | refine blk_drewN ?_ _ | refine blk_drew ?_ | refine blk_alloc ?_ _)); exact BK495.out)) : gb495 ≠ gb514)); have n8_ := Aside0.mk ((by rw [hg]; exact Nat.ne_of_gt (blk_lt (g := gb495) (o := .cells #[.int .i64 a0_0, .int .i64 a0_1, .int .i64 a0_2] 31 (0, 0)) (by (with_reducible repeat (first | refine blk_drewN ?_ _ | refine blk_drew ?_ | refine blk_alloc ?_ _)); exact BK495.out)) : gb514 ≠ gb495)); clear HO499; clear HO509; clear BK495; clear HB; have HO499 := n0_; have HO509 := n1_; have BK495 := n2_; have HB := n3_; have BK514 := n4_; have GW514 := n5_; have GE514 := n6_; have NB495_514 := n7_; have NB514_495 := n8_; clear n0_ n1_ n2_ n3_ n4_ n5_ n6_ n7_ n8_; clear hb hbox hg; have hnb30 := NB514_495.out; have hnc30 := NB495_514.out; have hcz31_0 : w29.cell? ⟨gb514, 0, none⟩ = some (.int .i64 0) := (blk_cell BK514.out 0).trans rfl; have hcz31_1 : w29.cell? ⟨gb514, 1, none⟩ = some (.int .i64 0) := (blk_cell BK514.out 1).trans rfl; have hcz31_2 : w29.cell? ⟨gb514, 2, none⟩ = some (.int .i64 0) := (blk_cell BK514.out 2).trans rfl; have hfz31_0 := blk_frozen BK514.out 0; have hfz31_1 := blk_frozen BK514.out 1; have hfz31_2 := blk_frozen BK514.out 2) | ((with_reducible refine gate_dst (N := 49) rfl ?_); (try (refine gate_guard (by rfl) ?_; dsimp only)); refine Kd.R_lit (Kd.int .u8) _ 5 ?hg (N := 49) ?hd (xs := ([] : List Int)) (inner := []) (ok := fun _ => True) (okp := fun _ => True) ?hr ?hp (fun _ hk => hk) trivial (Below.refl _ _) (Nat.le_refl _) (by simp) ?_; (case hd => rfl); (case hg => rfl); (case hr => first | (go_simp; done) | (go_simp; rfl)); (case hp => exact (Reps.none _ _)); intro v516 w32 ho33 hb hg_ hnew_; clear hg_ hnew_; (first | rw [← Ny515.out] at ho33 | (simp only [Int.reduceToNat] at ho33; rw [← Ny515.out] at ho33)); have n0_ := Aside0.mk (Kd.R_elder' (by (with_reducible repeat (first | apply Kd.R_alloc | apply Kd.R_drewN | apply Kd.R_drew)); exact (Kd.R_mono (Kd.R_far (p := ⟨gb514, 2, none⟩) (Kd.R_far (p := ⟨gb514, 1, none⟩) (Kd.R_far (p := ⟨gb514, 0, none⟩) (Kd.R_types HO499.out BK514.out (by decide)) (fun _ hk => hk.2) (.int .i64 t510)) (fun _ hk => hk.2) (.int .i64 t511)) (fun _ hk => hk.2) (.int .i64 t512)) (fun _ h_ => h_.1))) (Kd.R_base ho33) hb); have n1_ := Aside0.mk (Kd.R_elder' (by (with_reducible repeat (first | apply Kd.R_alloc | apply Kd.R_drewN | apply Kd.R_drew)); exact (Kd.R_mono (Kd.R_far (p := ⟨gb514, 2, none⟩) (Kd.R_far (p := ⟨gb514, 1, none⟩) (Kd.R_far (p := ⟨gb514, 0, none⟩) (Kd.R_types HO509.out BK514.out (by decide)) (fun _ hk => hk.2) (.int .i64 t510)) (fun _ hk => hk.2) (.int .i64 t511)) (fun _ hk => hk.2) (.int .i64 t512)) (fun _ h_ => h_.1))) (Kd.R_base ho33) hb); have n2_ := Aside0.mk (Kd.R_lower (Kd.R_new' (Kd.R_new' ho33 (Kd.R_lt (by (with_reducible repeat (first | apply Kd.R_alloc | apply Kd.R_drewN | apply Kd.R_drew)); exact (Kd.R_mono (Kd.R_far (p := ⟨gb514, 2, none⟩) (Kd.R_far (p := ⟨gb514, 1, none⟩) (Kd.R_far (p := ⟨gb514, 0, none⟩) (Kd.R_types HO499.out BK514.out (by decide)) (fun _ hk => hk.2) (.int .i64 t510)) (fun _ hk => hk.2) (.int .i64 t511)) (fun _ hk => hk.2) (.int .i64 t512)) (fun _ h_ => h_.1))))) (Kd.R_lt (by (with_reducible repeat (first | apply Kd.R_alloc | apply Kd.R_drewN | apply Kd.R_drew)); exact (Kd.R_mono (Kd.R_far (p := ⟨gb514, 2, none⟩) (Kd.R_far (p := ⟨gb514, 1, none⟩) (Kd.R_far (p := ⟨gb514, 0, none⟩) (Kd.R_types HO509.out BK514.out (by decide)) (fun _ hk => hk.2) (.int .i64 t510)) (fun _ hk => hk.2) (.int .i64 t511)) (fun _ hk => hk.2) (.int .i64 t512)) (fun _ h_ => h_.1))))) (below_size (by repeat (first | (with_reducible first | exact HB.out | apply below_alloc | apply pw_below_drewN | apply below_drew1 | refine below_set ?_ GE495.out | refine below_set ?_ GE514.out) | exact HB.out)))); have n3_ := Aside0.mk (blk_below (g := gb495) (o := .cells #[.int .i64 a0_0, .int .i64 a0_1, .int .i64 a0_2] 31 (0, 0)) (by (with_reducible repeat (first | refine blk_drewN ?_ _ | refine blk_drew ?_ | refine blk_alloc ?_ _)); refine blk_far ?_ NB495_514.out _; (with_reducible repeat (first | refine blk_drewN ?_ _ | refine blk_drew ?_ | refine blk_alloc ?_ _)); refine blk_far ?_ NB495_514.out _; (with_reducible repeat (first | refine blk_drewN ?_ _ | refine blk_drew ?_ | refine blk_alloc ?_ _)); refine blk_far ?_ NB495_514.out _; (with_reducible repeat (first | refine blk_drewN ?_ _ | refine blk_drew ?_ | refine blk_alloc ?_ _)); exact BK495.out) hb); have n4_ := Aside0.mk (blk_below (g := gb514) (o := .cells #[.int .i64 t510, .int .i64 t511, .int .i64 t512] 31 (0, 0)) (by (with_reducible repeat (first | refine blk_drewN ?_ _ | refine blk_drew ?_ | refine blk_alloc ?_ _)); refine blk_put (cs := #[.int .i64 t510, .int .i64 t511, .int .i64 0]) ?_ 2 _ rfl; (with_reducible repeat (first | refine blk_drewN ?_ _ | refine blk_drew ?_ | refine blk_alloc ?_ _)); refine blk_put (cs := #[.int .i64 t510, .int .i64 0, .int .i64 0]) ?_ 1 _ rfl; (with_reducible repeat (first | refine blk_drewN ?_ _ | refine blk_drew ?_ | refine blk_alloc ?_ _)); refine blk_put (cs := #[.int .i64 0, .int .i64 0, .int .i64 0]) ?_ 0 _ rfl; (with_reducible repeat (first | refine blk_drewN ?_ _ | refine blk_drew ?_ | refine blk_alloc ?_ _)); exact BK514.out) hb); have n5_ := Aside0.mk (below_step (by repeat (first | (with_reducible first | exact HB.out | apply below_alloc | apply pw_below_drewN | apply below_drew1 | refine below_set ?_ GE495.out | refine below_set ?_ GE514.out) | exact HB.out)) hb); clear HO499; clear HO509; clear BK495; clear BK514; clear HB; have HO499 := n0_; have HO509 := n1_; have HO517 := n2_; have BK495 := n3_; have BK514 := n4_; have HB := n5_; clear n0_ n1_ n2_ n3_ n4_ n5_; clear hb ho33) | ((with_reducible refine gate_builtin (b := .append) (xs := #[.tmp 49, .tmp 50]) rfl ?_); (try (refine gate_guard (by rfl) ?_; dsimp only)); at_builtin; refine Kd.R_append_rows (Kd.int .u8) (w0 := w) w.heap.size rfl (.tmp 49) (.tmp 50) 25 5 (.int .u8 0) 1 rfl Try.underlying25 info5 rfl (by decide) (by omega) v516 y515 l1 _ _ _ (fun k_ => some k_ ≠ (.slice Ao25 t497.length co25 : Value).ownBlock ∧ some k_ ≠ (.slice Ao27 y507.length co27 : Value).ownBlock) (fun _ => False) rfl rfl ?aO ?aR (fun _ _ h => h) (fun _ h => h.elim) ?aF ?aB ?aS ?aL ?_; (case aR => repeat (first | exact (Kd.C_below HR1.out HB.out) | (with_reducible refine Kd.C_alloc ?_ _) | (with_reducible refine Kd.C_drewN ?_ _) | (with_reducible refine Kd.C_drew ?_))); (case aB => exact (by repeat (first | (with_reducible first | exact HB.out | apply below_alloc | apply pw_below_drewN | apply below_drew1 | refine below_set ?_ GE495.out | refine below_set ?_ GE514.out) | exact HB.out))); (case aF => exact (fun k_ hk => ⟨Kd.fresh' (Kd.R_lt (by (with_reducible repeat (first | apply Kd.R_alloc | apply Kd.R_drewN | apply Kd.R_drew)); exact HO499.out)) k_ hk, Kd.fresh' (Kd.R_lt (by (with_reducible repeat (first | apply Kd.R_alloc | apply Kd.R_drewN | apply Kd.R_drew)); exact HO509.out)) k_ hk⟩)); (case aO => exact (by (with_reducible repeat (first | apply Kd.R_alloc | apply Kd.R_drewN | apply Kd.R_drew)); exact Kd.R_mono HO517.out (fun _ hk => ⟨hk.1.2, hk.2⟩))); (case aS => exact (below_size (by repeat (first | (with_reducible first | exact HB.out | apply below_alloc | apply pw_below_drewN | apply below_drew1 | refine below_set ?_ GE495.out | refine below_set ?_ GE514.out) | exact HB.out)))); (case aL => have := LMc13.out; omega); intro v519 w34 ho hb hg hat; rw [← Ny518.out] at ho; have n0_ := Aside0.mk (blk_grown (g := gb495) (o := .cells #[.int .i64 a0_0, .int .i64 a0_1, .int .i64 a0_2] 31 (0, 0)) (by (with_reducible repeat (first | refine blk_drewN ?_ _ | refine blk_drew ?_ | refine blk_alloc ?_ _)); exact BK495.out) hg (Kd.R_ne HO517.out BK495.out (by decide))); have n1_ := Aside0.mk (Kd.R_after (ok := (fun k_ => some k_ ≠ (.slice Ao27 y507.length co27 : Value).ownBlock)) (by (with_reducible repeat (first | apply Kd.R_alloc | apply Kd.R_drewN | apply Kd.R_drew)); exact Kd.R_mono HO499.out (fun _ hk => ⟨hk.1.2, hk.2⟩)) hg hat); have n2_ := Aside0.mk (Kd.R_after (ok := (fun k_ => some k_ ≠ (.slice Ao25 t497.length co25 : Value).ownBlock)) (by (with_reducible repeat (first | apply Kd.R_alloc | apply Kd.R_drewN | apply Kd.R_drew)); exact HO509.out) hg hat); have n3_ := Aside0.mk (blk_grown (g := gb514) (o := .cells #[.int .i64 t510, .int .i64 t511, .int .i64 t512] 31 (0, 0)) (by (with_reducible repeat (first | refine blk_drewN ?_ _ | refine blk_drew ?_ | refine blk_alloc ?_ _)); exact BK514.out) hg (Kd.R_ne HO517.out BK514.out (by decide))); have n4_ := Aside0.mk (hb); have n5_ := Aside0.mk (ho); clear BK495; clear HO499; clear HO509; clear BK514; clear HB; clear HO517; have BK495 := n0_; have HO499 := n1_; have HO509 := n2_; have BK514 := n3_; have HB := n4_; have HO520 := n5_; clear n0_ n1_ n2_ n3_ n4_ n5_; clear ho hb hg hat) | ((with_reducible refine gate_builtin (b := .append) (xs := #[.tmp 51, .tmp 52]) rfl ?_); (try (refine gate_guard (by rfl) ?_; dsimp only)); at_builtin; refine Kd.R_append_rows (Kd.int .u8) (w0 := w) w.heap.size rfl (.tmp 51) (.tmp 52) 25 5 (.int .u8 0) 1 rfl Try.underlying25 info5 rfl (by decide) (by omega) v519 y518 l2 _ _ _ (fun k_ => some k_ ≠ (.slice Ao25 t497.length co25 : Value).ownBlock ∧ some k_ ≠ (.slice Ao27 y507.length co27 : Value).ownBlock) (fun _ => False) rfl rfl ?aO ?aR (fun _ _ h => h) (fun _ h => h.elim) ?aF ?aB ?aS ?aL ?_; (case aR => repeat (first | exact (Kd.C_below HR2.out HB.out) | (with_reducible refine Kd.C_alloc ?_ _) | (with_reducible refine Kd.C_drewN ?_ _) | (with_reducible refine Kd.C_drew ?_))); (case aB => exact (by repeat (first | (with_reducible first | exact HB.out | apply below_alloc | apply pw_below_drewN | apply below_drew1 | refine below_set ?_ GE495.out | refine below_set ?_ GE514.out) | exact HB.out))); (case aF => exact (fun k_ hk => ⟨Kd.fresh' (Kd.R_lt (by (with_reducible repeat (first | apply Kd.R_alloc | apply Kd.R_drewN | apply Kd.R_drew)); exact HO499.out)) k_ hk, Kd.fresh' (Kd.R_lt (by (with_reducible repeat (first | apply Kd.R_alloc | apply Kd.R_drewN | apply Kd.R_drew)); exact HO509.out)) k_ hk⟩)); (case aO => exact (by (with_reducible repeat (first | apply Kd.R_alloc | apply Kd.R_drewN | apply Kd.R_drew)); exact HO520.out)); (case aS => exact (below_size (by repeat (first | (with_reducible first | exact HB.out | apply below_alloc | apply pw_below_drewN | apply below_drew1 | refine below_set ?_ GE495.out | refine below_set ?_ GE514.out) | exact HB.out)))); (case aL => have := LMc14.out; omega); intro v522 w35 ho hb hg hat; rw [← Ny521.out] at ho; have n0_ := Aside0.mk (blk_grown (g := gb495) (o := .cells #[.int .i64 a0_0, .int .i64 a0_1, .int .i64 a0_2] 31 (0, 0)) (by (with_reducible repeat (first | refine blk_drewN ?_ _ | refine blk_drew ?_ | refine blk_alloc ?_ _)); exact BK495.out) hg (Kd.R_ne HO520.out BK495.out (by decide))); have n1_ := Aside0.mk (Kd.R_after (ok := (fun k_ => some k_ ≠ (.slice Ao27 y507.length co27 : Value).ownBlock)) (by (with_reducible repeat (first | apply Kd.R_alloc | apply Kd.R_drewN | apply Kd.R_drew)); exact HO499.out) hg hat); have n2_ := Aside0.mk (Kd.R_after (ok := (fun k_ => some k_ ≠ (.slice Ao25 t497.length co25 : Value).ownBlock)) (by (with_reducible repeat (first | apply Kd.R_alloc | apply Kd.R_drewN | apply Kd.R_drew)); exact HO509.out) hg hat); have n3_ := Aside0.mk (blk_grown (g := gb514) (o := .cells #[.int .i64 t510, .int .i64 t511, .int .i64 t512] 31 (0, 0)) (by (with_reducible repeat (first | refine blk_drewN ?_ _ | refine blk_drew ?_ | refine blk_alloc ?_ _)); exact BK514.out) hg (Kd.R_ne HO520.out BK514.out (by decide))); have n4_ := Aside0.mk (hb); have n5_ := Aside0.mk (ho); clear BK495; clear HO499; clear HO509; clear BK514; clear HB; clear HO520; have BK495 := n0_; have HO499 := n1_; have HO509 := n2_; have BK514 := n3_; have HB := n4_; have HO523 := n5_; clear n0_ n1_ n2_ n3_ n4_ n5_; clear ho hb hg hat; obtain ⟨Ao36, co36, eo36⟩ := Kd.R_slice HO523.out; subst eo36) | ((with_reducible refine gate_callee (f := 30) rfl ?_); refine goesL_ (some 54) rfl rfl Try.func30 (by kernel_rfl) rfl #[.slice Ao25 t497.length co25, .slice Ao36 y521.length co36] rfl (by (try simp only [List.map_toArray, List.map_cons, List.map_nil]); first | done | rfl | (simp only [List.length_drop, List.length_take]; rfl)) ?_; (with_reducible refine (oob_Unpack.calls k _ _ t497 _ _ y521 t524 t525 t526 t527 _ ?side1 ?side2 ?side3 ?side4 A15.out).mono ?_); (case side1 => repeat (first | exact (Kd.R_reads' HO499.out).2.2 | (with_reducible refine Kd.C_alloc ?_ _) | (with_reducible refine Kd.C_drewN ?_ _) | (with_reducible refine Kd.C_drew ?_))); (case side2 => exact (Kd.R_reads' HO499.out).2.1); (case side3 => repeat (first | exact (Kd.R_reads' HO523.out).2.2 | (with_reducible refine Kd.C_alloc ?_ _) | (with_reducible refine Kd.C_drewN ?_ _) | (with_reducible refine Kd.C_drew ?_))); (case side4 => exact (Kd.R_reads' HO523.out).2.1); rintro e w37 ⟨rfl, hb⟩; refine ⟨_, rfl, ?_⟩; have n0_ := Aside0.mk (Kd.R_below (by (with_reducible repeat (first | apply Kd.R_alloc | apply Kd.R_drewN | apply Kd.R_drew)); exact HO499.out) hb); have n1_ := Aside0.mk (Kd.R_below (by (with_reducible repeat (first | apply Kd.R_alloc | apply Kd.R_drewN | apply Kd.R_drew)); exact HO509.out) hb); have n2_ := Aside0.mk (Kd.R_below (by (with_reducible repeat (first | apply Kd.R_alloc | apply Kd.R_drewN | apply Kd.R_drew)); exact HO523.out) hb); have n3_ := Aside0.mk (blk_below (g := gb495) (o := .cells #[.int .i64 a0_0, .int .i64 a0_1, .int .i64 a0_2] 31 (0, 0)) (by (with_reducible repeat (first | refine blk_drewN ?_ _ | refine blk_drew ?_ | refine blk_alloc ?_ _)); exact BK495.out) hb); have n4_ := Aside0.mk (blk_below (g := gb514) (o := .cells #[.int .i64 t510, .int .i64 t511, .int .i64 t512] 31 (0, 0)) (by (with_reducible repeat (first | refine blk_drewN ?_ _ | refine blk_drew ?_ | refine blk_alloc ?_ _)); exact BK514.out) hb); have n5_ := Aside0.mk (below_step (by repeat (first | (with_reducible first | exact HB.out | apply below_alloc | apply pw_below_drewN | apply below_drew1 | refine below_set ?_ GE495.out | refine below_set ?_ GE514.out) | exact HB.out)) hb); clear HO499; clear HO509; clear HO523; clear BK495; clear BK514; clear HB; have HO499 := n0_; have HO509 := n1_; have HO523 := n2_; have BK495 := n3_; have BK514 := n4_; have HB := n5_; clear n0_ n1_ n2_ n3_ n4_ n5_; (try clear hb); (try clear hb2); (try clear hk); (try clear hi)) | ((with_reducible refine gate_dst (N := 12) rfl ?_); (try (refine gate_guard (by rfl) ?_; dsimp only)); refine box_event ?hg (N := 12) ?hd (cs := #[.int .i64 0, .int .i64 0, .int .i64 0]) (t := 31) ?hr ?_; (case hd => rfl); (case hg => rfl); (case hr => first | (go_simp; done) | (go_simp; rfl)); intro gb528 hg w38 hbox hb; have n0_ := Aside0.mk (Kd.R_below (by (with_reducible repeat (first | apply Kd.R_alloc | apply Kd.R_drewN | apply Kd.R_drew)); exact HO499.out) hb); have n1_ := Aside0.mk (Kd.R_below (by (with_reducible repeat (first | apply Kd.R_alloc | apply Kd.R_drewN | apply Kd.R_drew)); exact HO509.out) hb); have n2_ := Aside0.mk (Kd.R_below (by (with_reducible repeat (first | apply Kd.R_alloc | apply Kd.R_drewN | apply Kd.R_drew)); exact HO523.out) hb); have n3_ := Aside0.mk (blk_below (g := gb495) (o := .cells #[.int .i64 a0_0, .int .i64 a0_1, .int .i64 a0_2] 31 (0, 0)) (by (with_reducible repeat (first | refine blk_drewN ?_ _ | refine blk_drew ?_ | refine blk_alloc ?_ _)); exact BK495.out) hb); have n4_ := Aside0.mk (blk_below (g := gb514) (o := .cells #[.int .i64 t510, .int .i64 t511, .int .i64 t512] 31 (0, 0)) (by (with_reducible repeat (first | refine blk_drewN ?_ _ | refine blk_drew ?_ | refine blk_alloc ?_ _)); exact BK514.out) hb); have n5_ := Aside0.mk (below_step (by repeat (first | (with_reducible first | exact HB.out | apply below_alloc | apply pw_below_drewN | apply below_drew1 | refine below_set ?_ GE495.out | refine below_set ?_ GE514.out) | exact HB.out)) hb); have n6_ := Aside0.mk (hbox); have n7_ := Aside0.mk ((by rw [hg]; exact (below_size (by repeat (first | (with_reducible first | exact HB.out | apply below_alloc | apply pw_below_drewN | apply below_drew1 | refine below_set ?_ GE495.out | refine below_set ?_ GE514.out) | exact HB.out))) : w.heap.size ≤ gb528)); have n8_ := Aside0.mk ((by rw [hg]; exact (below_size (by repeat (first | (with_reducible first | exact HB.out | apply below_alloc | apply pw_below_drewN | apply below_drew1 | refine below_set ?_ GE495.out | refine below_set ?_ GE514.out) | exact HB.out))) : w.heap.size ≤ gb528)); have n9_ := Aside0.mk ((by rw [hg]; exact Nat.ne_of_lt (blk_lt (g := gb495) (o := .cells #[.int .i64 a0_0, .int .i64 a0_1, .int .i64 a0_2] 31 (0, 0)) (by (with_reducible repeat (first | refine blk_drewN ?_ _ | refine blk_drew ?_ | refine blk_alloc ?_ _)); exact BK495.out)) : gb495 ≠ gb528)); have n10_ := Aside0.mk ((by rw [hg]; exact Nat.ne_of_gt (blk_lt (g := gb495) (o := .cells #[.int .i64 a0_0, .int .i64 a0_1, .int .i64 a0_2] 31 (0, 0)) (by (with_reducible repeat (first | refine blk_drewN ?_ _ | refine blk_drew ?_ | refine blk_alloc ?_ _)); exact BK495.out)) : gb528 ≠ gb495)); have n11_ := Aside0.mk ((by rw [hg]; exact Nat.ne_of_lt (blk_lt (g := gb514) (o := .cells #[.int .i64 t510, .int .i64 t511, .int .i64 t512] 31 (0, 0)) (by (with_reducible repeat (first | refine blk_drewN ?_ _ | refine blk_drew ?_ | refine blk_alloc ?_ _)); exact BK514.out)) : gb514 ≠ gb528)); have n12_ := Aside0.mk ((by rw [hg]; exact Nat.ne_of_gt (blk_lt (g := gb514) (o := .cells #[.int .i64 t510, .int .i64 t511, .int .i64 t512] 31 (0, 0)) (by (with_reducible repeat (first | refine blk_drewN ?_ _ | refine blk_drew ?_ | refine blk_alloc ?_ _)); exact BK514.out)) : gb528 ≠ gb514)); clear HO499; clear HO509; clear HO523; clear BK495; clear BK514; clear HB; have HO499 := n0_; have HO509 := n1_; have HO523 := n2_; have BK495 := n3_; have BK514 := n4_; have HB := n5_; have BK528 := n6_; have GW528 := n7_; have GE528 := n8_; have NB495_528 := n9_; have NB528_495 := n10_; have NB514_528 := n11_; have NB528_514 := n12_; clear n0_ n1_ n2_ n3_ n4_ n5_ n6_ n7_ n8_ n9_ n10_ n11_ n12_; clear hb hbox hg; have hnb39 := NB528_495.out; have hnc39 := NB495_528.out; have hnb40 := NB528_514.out; have hnc40 := NB514_528.out; have hcz41_0 : w38.cell? ⟨gb528, 0, none⟩ = some (.int .i64 0) := (blk_cell BK528.out 0).trans rfl; have hcz41_1 : w38.cell? ⟨gb528, 1, none⟩ = some (.int .i64 0) := (blk_cell BK528.out 1).trans rfl; have hcz41_2 : w38.cell? ⟨gb528, 2, none⟩ = some (.int .i64 0) := (blk_cell BK528.out 2).trans rfl; have hfz41_0 := blk_frozen BK528.out 0; have hfz41_1 := blk_frozen BK528.out 1; have hfz41_2 := blk_frozen BK528.out 2))
                (try simp only [Act.put, List.setIfInBounds_toArray, List.set_cons_zero, List.set_cons_succ])
                go_cut [6] (fun v6 wc => ∃ (kq : Nat) (x6_16 : Bool), v6 = .bool x6_16 ∧ Aside0 (strakelaw05_OobLong.j1 kq x6_16 = some r) ∧ Aside0 (kq ≤ k) ∧ Aside0 (wc.heap[gb495]? = some (.cells #[.int .i64 a0_0, .int .i64 a0_1, .int .i64 a0_2] 31 (0, 0))) ∧ Aside0 (wc.heap[gb514]? = some (.cells #[.int .i64 t510, .int .i64 t511, .int .i64 t512] 31 (0, 0))) ∧ Aside0 (wc.heap[gb528]? = some (.cells #[.int .i64 t524, .int .i64 t525, .int .i64 t526] 31 (0, 0))) ∧ Aside0 (Below w.heap.size w wc))
                case first =>
                  have H := HC17.out
                  clear HC17
                  by_cases c42 : t496 = true
                  · subst c42
                    have H1 : (if (t510 == a0_0 && (t511 == a0_1 && (t512 == a0_2))) = true then (strakelaw05_OobLong.j1 k (t524 == a0_0 && (t525 == a0_1 && (t526 == a0_2)))) else (strakelaw05_OobLong.j1 k false)) = some r := by rw [if_pos rfl] at H; exact H
                    clear H
                    have H := H1
                    clear H1
                    by_cases c43 : (t510 == a0_0 && (t511 == a0_1 && (t512 == a0_2))) = true
                    · rw [if_pos c43] at H
                      have c43b0 : (t510 == a0_0 && (t511 == a0_1 && (t512 == a0_2))) = true := c43
                      (try (have c43b1 : decide (t510 = a0_0 && (t511 == a0_1 && (t512 == a0_2))) = true := by simpa using c43))
                      (try (have c43b2 : (t510 == a0_0 && (t511 == a0_1 && (t512 == a0_2))) = true := by simpa using c43))
                      clear c43
                      (first | rw [c43b0] | (simp only [i64_w, i32_w]; rw [c43b0]) | skip)
                      have H' := Aside0.mk H
                      clear H
                      have hnb44 := NB514_495.out
                      have hnc44 := NB495_514.out
                      have hnb45 := NB514_528.out
                      have hnc45 := NB528_514.out
                      have hcz46_0 : w38.cell? ⟨gb514, 0, none⟩ = some (.int .i64 t510) := (blk_cell BK514.out 0).trans rfl
                      have hcz46_1 : w38.cell? ⟨gb514, 1, none⟩ = some (.int .i64 t511) := (blk_cell BK514.out 1).trans rfl
                      have hcz46_2 : w38.cell? ⟨gb514, 2, none⟩ = some (.int .i64 t512) := (blk_cell BK514.out 2).trans rfl
                      have hfz46_0 := blk_frozen BK514.out 0
                      have hfz46_1 := blk_frozen BK514.out 1
                      have hfz46_2 := blk_frozen BK514.out 2
                      have hnb47 := NB495_528.out
                      have hnc47 := NB528_495.out
                      have hcz48_0 : w38.cell? ⟨gb495, 0, none⟩ = some (.int .i64 a0_0) := (blk_cell BK495.out 0).trans rfl
                      have hcz48_1 : w38.cell? ⟨gb495, 1, none⟩ = some (.int .i64 a0_1) := (blk_cell BK495.out 1).trans rfl
                      have hcz48_2 : w38.cell? ⟨gb495, 2, none⟩ = some (.int .i64 a0_2) := (blk_cell BK495.out 2).trans rfl
                      have hfz48_0 := blk_frozen BK495.out 0
                      have hfz48_1 := blk_frozen BK495.out 1
                      have hfz48_2 := blk_frozen BK495.out 2
                      have hcz49_0 : w38.cell? ⟨gb528, 0, none⟩ = some (.int .i64 0) := (blk_cell BK528.out 0).trans rfl
                      have hcz49_1 : w38.cell? ⟨gb528, 1, none⟩ = some (.int .i64 0) := (blk_cell BK528.out 1).trans rfl
                      have hcz49_2 : w38.cell? ⟨gb528, 2, none⟩ = some (.int .i64 0) := (blk_cell BK528.out 2).trans rfl
                      have hfz49_0 := blk_frozen BK528.out 0
                      have hfz49_1 := blk_frozen BK528.out 1
                      have hfz49_2 := blk_frozen BK528.out 2
                      go_wp2
                      go_meet
                      case rel => exact ⟨_, ((t524 == a0_0 && (t525 == a0_1 && (t526 == a0_2)))), (by first | rfl | (simp; done) | (simp [*]; done)), H', ⟨by first | omega | exact Nat.le_refl _⟩, ⟨by (with_reducible repeat (first | refine blk_drewN ?_ _ | refine blk_drew ?_ | refine blk_alloc ?_ _)); refine blk_far ?_ NB495_528.out _; (with_reducible repeat (first | refine blk_drewN ?_ _ | refine blk_drew ?_ | refine blk_alloc ?_ _)); refine blk_far ?_ NB495_528.out _; (with_reducible repeat (first | refine blk_drewN ?_ _ | refine blk_drew ?_ | refine blk_alloc ?_ _)); refine blk_far ?_ NB495_528.out _; (with_reducible repeat (first | refine blk_drewN ?_ _ | refine blk_drew ?_ | refine blk_alloc ?_ _)); exact BK495.out⟩, ⟨by (with_reducible repeat (first | refine blk_drewN ?_ _ | refine blk_drew ?_ | refine blk_alloc ?_ _)); refine blk_far ?_ NB514_528.out _; (with_reducible repeat (first | refine blk_drewN ?_ _ | refine blk_drew ?_ | refine blk_alloc ?_ _)); refine blk_far ?_ NB514_528.out _; (with_reducible repeat (first | refine blk_drewN ?_ _ | refine blk_drew ?_ | refine blk_alloc ?_ _)); refine blk_far ?_ NB514_528.out _; (with_reducible repeat (first | refine blk_drewN ?_ _ | refine blk_drew ?_ | refine blk_alloc ?_ _)); exact BK514.out⟩, ⟨by (with_reducible repeat (first | refine blk_drewN ?_ _ | refine blk_drew ?_ | refine blk_alloc ?_ _)); refine blk_put (cs := #[.int .i64 t524, .int .i64 t525, .int .i64 0]) ?_ 2 _ rfl; (with_reducible repeat (first | refine blk_drewN ?_ _ | refine blk_drew ?_ | refine blk_alloc ?_ _)); refine blk_put (cs := #[.int .i64 t524, .int .i64 0, .int .i64 0]) ?_ 1 _ rfl; (with_reducible repeat (first | refine blk_drewN ?_ _ | refine blk_drew ?_ | refine blk_alloc ?_ _)); refine blk_put (cs := #[.int .i64 0, .int .i64 0, .int .i64 0]) ?_ 0 _ rfl; (with_reducible repeat (first | refine blk_drewN ?_ _ | refine blk_drew ?_ | refine blk_alloc ?_ _)); exact BK528.out⟩, ⟨by repeat (first | (with_reducible first | exact HB.out | apply below_alloc | apply pw_below_drewN | apply below_drew1 | refine below_set ?_ GE495.out | refine below_set ?_ GE514.out | refine below_set ?_ GE528.out) | exact HB.out)⟩⟩
                    · rw [if_neg c43] at H
                      have c43b0 : (t510 == a0_0 && (t511 == a0_1 && (t512 == a0_2))) = false := by simpa using c43
                      (try (have c43b1 : decide (t510 = a0_0 && (t511 == a0_1 && (t512 == a0_2))) = false := by simpa using c43))
                      (try (have c43b2 : (t510 == a0_0 && (t511 == a0_1 && (t512 == a0_2))) = false := by simpa using c43))
                      (try (have c43b3 : ¬ (t510 = a0_0 && (t511 == a0_1 && (t512 == a0_2))) := by simpa using c43))
                      clear c43
                      (first | rw [c43b0] | (simp only [i64_w, i32_w]; rw [c43b0]) | skip)
                      have H' := Aside0.mk H
                      clear H
                      have hnb50 := NB514_495.out
                      have hnc50 := NB495_514.out
                      have hnb51 := NB514_528.out
                      have hnc51 := NB528_514.out
                      have hcz52_0 : w38.cell? ⟨gb514, 0, none⟩ = some (.int .i64 t510) := (blk_cell BK514.out 0).trans rfl
                      have hcz52_1 : w38.cell? ⟨gb514, 1, none⟩ = some (.int .i64 t511) := (blk_cell BK514.out 1).trans rfl
                      have hcz52_2 : w38.cell? ⟨gb514, 2, none⟩ = some (.int .i64 t512) := (blk_cell BK514.out 2).trans rfl
                      have hfz52_0 := blk_frozen BK514.out 0
                      have hfz52_1 := blk_frozen BK514.out 1
                      have hfz52_2 := blk_frozen BK514.out 2
                      have hnb53 := NB495_528.out
                      have hnc53 := NB528_495.out
                      have hcz54_0 : w38.cell? ⟨gb495, 0, none⟩ = some (.int .i64 a0_0) := (blk_cell BK495.out 0).trans rfl
                      have hcz54_1 : w38.cell? ⟨gb495, 1, none⟩ = some (.int .i64 a0_1) := (blk_cell BK495.out 1).trans rfl
                      have hcz54_2 : w38.cell? ⟨gb495, 2, none⟩ = some (.int .i64 a0_2) := (blk_cell BK495.out 2).trans rfl
                      have hfz54_0 := blk_frozen BK495.out 0
                      have hfz54_1 := blk_frozen BK495.out 1
                      have hfz54_2 := blk_frozen BK495.out 2
                      go_wp2
                      go_meet
                      case rel => exact ⟨_, (false), (by first | rfl | (simp; done) | (simp [*]; done)), H', ⟨by first | omega | exact Nat.le_refl _⟩, ⟨by (with_reducible repeat (first | refine blk_drewN ?_ _ | refine blk_drew ?_ | refine blk_alloc ?_ _)); refine blk_far ?_ NB495_528.out _; (with_reducible repeat (first | refine blk_drewN ?_ _ | refine blk_drew ?_ | refine blk_alloc ?_ _)); refine blk_far ?_ NB495_528.out _; (with_reducible repeat (first | refine blk_drewN ?_ _ | refine blk_drew ?_ | refine blk_alloc ?_ _)); refine blk_far ?_ NB495_528.out _; (with_reducible repeat (first | refine blk_drewN ?_ _ | refine blk_drew ?_ | refine blk_alloc ?_ _)); exact BK495.out⟩, ⟨by (with_reducible repeat (first | refine blk_drewN ?_ _ | refine blk_drew ?_ | refine blk_alloc ?_ _)); refine blk_far ?_ NB514_528.out _; (with_reducible repeat (first | refine blk_drewN ?_ _ | refine blk_drew ?_ | refine blk_alloc ?_ _)); refine blk_far ?_ NB514_528.out _; (with_reducible repeat (first | refine blk_drewN ?_ _ | refine blk_drew ?_ | refine blk_alloc ?_ _)); refine blk_far ?_ NB514_528.out _; (with_reducible repeat (first | refine blk_drewN ?_ _ | refine blk_drew ?_ | refine blk_alloc ?_ _)); exact BK514.out⟩, ⟨by (with_reducible repeat (first | refine blk_drewN ?_ _ | refine blk_drew ?_ | refine blk_alloc ?_ _)); refine blk_put (cs := #[.int .i64 t524, .int .i64 t525, .int .i64 0]) ?_ 2 _ rfl; (with_reducible repeat (first | refine blk_drewN ?_ _ | refine blk_drew ?_ | refine blk_alloc ?_ _)); refine blk_put (cs := #[.int .i64 t524, .int .i64 0, .int .i64 0]) ?_ 1 _ rfl; (with_reducible repeat (first | refine blk_drewN ?_ _ | refine blk_drew ?_ | refine blk_alloc ?_ _)); refine blk_put (cs := #[.int .i64 0, .int .i64 0, .int .i64 0]) ?_ 0 _ rfl; (with_reducible repeat (first | refine blk_drewN ?_ _ | refine blk_drew ?_ | refine blk_alloc ?_ _)); exact BK528.out⟩, ⟨by repeat (first | (with_reducible first | exact HB.out | apply below_alloc | apply pw_below_drewN | apply below_drew1 | refine below_set ?_ GE495.out | refine below_set ?_ GE514.out | refine below_set ?_ GE528.out) | exact HB.out)⟩⟩
                  · replace c42 := Bool.eq_false_iff.mpr c42
                    subst c42
                    have H1 : (strakelaw05_OobLong.j1 k false) = some r := by rw [if_neg (show ¬ (false = true) by decide)] at H; exact H
                    clear H
                    have H := H1
                    clear H1
                    have H' := Aside0.mk H
                    clear H
                    go_wp2
                    go_meet
                    case rel => exact ⟨_, (false), (by first | rfl | (simp; done) | (simp [*]; done)), H', ⟨by first | omega | exact Nat.le_refl _⟩, ⟨by (with_reducible repeat (first | refine blk_drewN ?_ _ | refine blk_drew ?_ | refine blk_alloc ?_ _)); refine blk_far ?_ NB495_528.out _; (with_reducible repeat (first | refine blk_drewN ?_ _ | refine blk_drew ?_ | refine blk_alloc ?_ _)); refine blk_far ?_ NB495_528.out _; (with_reducible repeat (first | refine blk_drewN ?_ _ | refine blk_drew ?_ | refine blk_alloc ?_ _)); refine blk_far ?_ NB495_528.out _; (with_reducible repeat (first | refine blk_drewN ?_ _ | refine blk_drew ?_ | refine blk_alloc ?_ _)); exact BK495.out⟩, ⟨by (with_reducible repeat (first | refine blk_drewN ?_ _ | refine blk_drew ?_ | refine blk_alloc ?_ _)); refine blk_far ?_ NB514_528.out _; (with_reducible repeat (first | refine blk_drewN ?_ _ | refine blk_drew ?_ | refine blk_alloc ?_ _)); refine blk_far ?_ NB514_528.out _; (with_reducible repeat (first | refine blk_drewN ?_ _ | refine blk_drew ?_ | refine blk_alloc ?_ _)); refine blk_far ?_ NB514_528.out _; (with_reducible repeat (first | refine blk_drewN ?_ _ | refine blk_drew ?_ | refine blk_alloc ?_ _)); exact BK514.out⟩, ⟨by (with_reducible repeat (first | refine blk_drewN ?_ _ | refine blk_drew ?_ | refine blk_alloc ?_ _)); refine blk_put (cs := #[.int .i64 t524, .int .i64 t525, .int .i64 0]) ?_ 2 _ rfl; (with_reducible repeat (first | refine blk_drewN ?_ _ | refine blk_drew ?_ | refine blk_alloc ?_ _)); refine blk_put (cs := #[.int .i64 t524, .int .i64 0, .int .i64 0]) ?_ 1 _ rfl; (with_reducible repeat (first | refine blk_drewN ?_ _ | refine blk_drew ?_ | refine blk_alloc ?_ _)); refine blk_put (cs := #[.int .i64 0, .int .i64 0, .int .i64 0]) ?_ 0 _ rfl; (with_reducible repeat (first | refine blk_drewN ?_ _ | refine blk_drew ?_ | refine blk_alloc ?_ _)); exact BK528.out⟩, ⟨by repeat (first | (with_reducible first | exact HB.out | apply below_alloc | apply pw_below_drewN | apply below_drew1 | refine below_set ?_ GE495.out | refine below_set ?_ GE514.out | refine below_set ?_ GE528.out) | exact HB.out)⟩⟩
                case rest =>
                  clear HC17
                  try clear c1
                  try clear c2
                  try clear p2
                  try clear c3
                  try clear c4
                  try clear c5
                  try clear c5b0
                  try clear c5b1
                  try clear c9
                  try clear c9b0
                  try clear c9b1
                  try clear c10
                  try clear c11
                  try clear c13
                  try clear c14
                  try clear c16
                  try clear c16b0
                  try clear c16b1
                  try clear c22
                  try clear c23
                  try clear c30
                  try clear c39
                  try clear c40
                  try clear c42
                  try clear c43
                  try clear c43b0
                  try clear c43b1
                  try clear c43b2
                  try clear c44
                  try clear c45
                  try clear c47
                  try clear c50
                  try clear c51
                  try clear c53
                  try clear hcz20_0
                  try clear hcz20_1
                  try clear hcz20_2
                  try clear hcz31_0
                  try clear hcz31_1
                  try clear hcz31_2
                  try clear hcz41_0
                  try clear hcz41_1
                  try clear hcz41_2
                  try clear hcz46_0
                  try clear hcz46_1
                  try clear hcz46_2
                  try clear hcz48_0
                  try clear hcz48_1
                  try clear hcz48_2
                  try clear hcz49_0
                  try clear hcz49_1
                  try clear hcz49_2
                  try clear hcz52_0
                  try clear hcz52_1
                  try clear hcz52_2
                  try clear hcz54_0
                  try clear hcz54_1
                  try clear hcz54_2
                  try clear hfz20_0
                  try clear hfz20_1
                  try clear hfz20_2
                  try clear hfz31_0
                  try clear hfz31_1
                  try clear hfz31_2
                  try clear hfz41_0
                  try clear hfz41_1
                  try clear hfz41_2
                  try clear hfz46_0
                  try clear hfz46_1
                  try clear hfz46_2
                  try clear hfz48_0
                  try clear hfz48_1
                  try clear hfz48_2
                  try clear hfz49_0
                  try clear hfz49_1
                  try clear hfz49_2
                  try clear hfz52_0
                  try clear hfz52_1
                  try clear hfz52_2
                  try clear hfz54_0
                  try clear hfz54_1
                  try clear hfz54_2
                  obtain ⟨kq, x6_16, rfl, HA, HJ16, BK495, BK514, BK528, HB⟩ := hcut
                  cases kq with
                  | zero => exact absurd HA.out (by simp [strakelaw05_OobLong.j1])
                  | succ kj16 =>
                    have H := HA.out
                    clear HA
                    simp only [strakelaw05_OobLong.j1] at H
                    obtain rfl := Option.some.inj H
                    go_wp2
                    go_ret
                    exact ⟨by first | rfl | (simp [errW_none, errW_some] <;> rfl) | (simp [*, errW_none, errW_some] <;> rfl), by repeat (first | (with_reducible first | exact HB.out | apply below_alloc | apply pw_below_drewN | apply below_drew1 | refine below_set ?_ GE495.out | refine below_set ?_ GE514.out | refine below_set ?_ GE528.out) | exact HB.out)⟩
              · rw [if_neg c16] at H
                have c16b0 : ((l2.length : Int) == 0) = false := beq_eq_false_iff_ne.mpr c16
                have c16b1 : ((l2.length : Int) != 0) = true := bne_iff_ne.mpr c16
                have c16b2 : ¬ (l2 = []) := fun h_ => c16 (by rw [h_]; rfl)
                have HC55 := Aside0.mk H
                clear H
                go_enter Try.func14, Try.ntmps14
                go_upto_region 11 with (first | ((with_reducible refine gate_dst (N := 3) rfl ?_); (try (refine gate_guard (by rfl) ?_; dsimp only)); refine box_event ?hg (N := 3) ?hd (cs := #[.int .i64 a0_0, .int .i64 a0_1, .int .i64 a0_2]) (t := 31) ?hr ?_; (case hd => rfl); (case hg => rfl); (case hr => first | (go_simp; done) | (go_simp; rfl)); intro gb495 hg w56 hbox hb; have n0_ := Aside0.mk (below_step (by repeat (first | (with_reducible first | exact HB.out | apply below_alloc | apply pw_below_drewN | apply below_drew1) | exact HB.out)) hb); have n1_ := Aside0.mk (hbox); have n2_ := Aside0.mk ((by rw [hg]; exact (below_size (by repeat (first | (with_reducible first | exact HB.out | apply below_alloc | apply pw_below_drewN | apply below_drew1) | exact HB.out))) : w.heap.size ≤ gb495)); have n3_ := Aside0.mk ((by rw [hg]; exact (below_size (by repeat (first | (with_reducible first | exact HB.out | apply below_alloc | apply pw_below_drewN | apply below_drew1) | exact HB.out))) : w.heap.size ≤ gb495)); clear HB; have HB := n0_; have BK495 := n1_; have GW495 := n2_; have GE495 := n3_; clear n0_ n1_ n2_ n3_; clear hb hbox hg) | ((with_reducible refine gate_callee (f := 22) rfl ?_); refine goesL_ (some 14) rfl rfl Try.func22 (by kernel_rfl) rfl #[] rfl (by (try simp only [List.map_toArray, List.map_cons, List.map_nil]); first | done | rfl | (simp only [List.length_drop, List.length_take]; rfl)) ?_; (with_reducible refine (strakelaw05_awake.calls k  t496 _ A4.out).mono ?_); rintro e w57 ⟨rfl, hb⟩; refine ⟨_, rfl, ?_⟩; have n0_ := Aside0.mk (blk_below (g := gb495) (o := .cells #[.int .i64 a0_0, .int .i64 a0_1, .int .i64 a0_2] 31 (0, 0)) (by (with_reducible repeat (first | refine blk_drewN ?_ _ | refine blk_drew ?_ | refine blk_alloc ?_ _)); exact BK495.out) hb); have n1_ := Aside0.mk (below_step (by repeat (first | (with_reducible first | exact HB.out | apply below_alloc | apply pw_below_drewN | apply below_drew1 | refine below_set ?_ GE495.out) | exact HB.out)) hb); clear BK495; clear HB; have BK495 := n0_; have HB := n1_; clear n0_ n1_; (try clear hb); (try clear hb2); (try clear hk); (try clear hi); have hcz58_0 : w57.cell? ⟨gb495, 0, none⟩ = some (.int .i64 a0_0) := (blk_cell BK495.out 0).trans rfl; have hcz58_1 : w57.cell? ⟨gb495, 1, none⟩ = some (.int .i64 a0_1) := (blk_cell BK495.out 1).trans rfl; have hcz58_2 : w57.cell? ⟨gb495, 2, none⟩ = some (.int .i64 a0_2) := (blk_cell BK495.out 2).trans rfl; have hfz58_0 := blk_frozen BK495.out 0; have hfz58_1 := blk_frozen BK495.out 1; have hfz58_2 := blk_frozen BK495.out 2) | ((with_reducible refine gate_callee (f := 23) rfl ?_); refine goesL_ (some 22) rfl rfl Try.func23 (by kernel_rfl) rfl #[.agg #[.int .i64 a0_0, .int .i64 a0_1, .int .i64 a0_2], .slice A1 l1.length c1] rfl (by (try simp only [List.map_toArray, List.map_cons, List.map_nil]); first | done | rfl | (simp only [List.length_drop, List.length_take]; rfl)) ?_; (with_reducible refine (oob_Pack.calls k a0_0 a0_1 a0_2 _ _ l1 t497 t500 _ ?side1 ?side2 A8.out).mono ?_); (case side1 => repeat (first | exact (Kd.C_below HR1.out HB.out) | (with_reducible refine Kd.C_alloc ?_ _) | (with_reducible refine Kd.C_drewN ?_ _) | (with_reducible refine Kd.C_drew ?_))); (case side2 => exact HC1.out); rintro e w59 ⟨v498, rfl, ho0, hb⟩; refine ⟨_, rfl, ?_⟩; have n0_ := Aside0.mk (Kd.R_lower ho0 (below_size (by repeat (first | (with_reducible first | exact HB.out | apply below_alloc | apply pw_below_drewN | apply below_drew1 | refine below_set ?_ GE495.out) | exact HB.out)))); have n1_ := Aside0.mk (blk_below (g := gb495) (o := .cells #[.int .i64 a0_0, .int .i64 a0_1, .int .i64 a0_2] 31 (0, 0)) (by (with_reducible repeat (first | refine blk_drewN ?_ _ | refine blk_drew ?_ | refine blk_alloc ?_ _)); exact BK495.out) hb); have n2_ := Aside0.mk (below_step (by repeat (first | (with_reducible first | exact HB.out | apply below_alloc | apply pw_below_drewN | apply below_drew1 | refine below_set ?_ GE495.out) | exact HB.out)) hb); clear BK495; clear HB; have HO499 := n0_; have BK495 := n1_; have HB := n2_; clear n0_ n1_ n2_; (try clear hb); (try clear hb2); (try clear hk); (try clear hi); (try clear ho0)) | ((with_reducible refine gate_dst (N := 38) rfl ?_); (try (refine gate_guard (by rfl) ?_; dsimp only)); refine Kd.R_lit (Kd.int .u8) _ 5 ?hg (N := 38) ?hd (xs := ([] : List Int)) (inner := []) (ok := fun _ => True) (okp := fun _ => True) ?hr ?hp (fun _ hk => hk) trivial (Below.refl _ _) (Nat.le_refl _) (by simp) ?_; (case hd => rfl); (case hg => rfl); (case hr => first | (go_simp; done) | (go_simp; rfl)); (case hp => exact (Reps.none _ _)); intro v502 w60 ho61 hb hg_ hnew_; clear hg_ hnew_; (first | rw [← Ny501.out] at ho61 | (simp only [Int.reduceToNat] at ho61; rw [← Ny501.out] at ho61)); have n0_ := Aside0.mk (Kd.R_elder' (by (with_reducible repeat (first | apply Kd.R_alloc | apply Kd.R_drewN | apply Kd.R_drew)); exact HO499.out) (Kd.R_base ho61) hb); have n1_ := Aside0.mk (Kd.R_lower (Kd.R_new' ho61 (Kd.R_lt (by (with_reducible repeat (first | apply Kd.R_alloc | apply Kd.R_drewN | apply Kd.R_drew)); exact HO499.out))) (below_size (by repeat (first | (with_reducible first | exact HB.out | apply below_alloc | apply pw_below_drewN | apply below_drew1 | refine below_set ?_ GE495.out) | exact HB.out)))); have n2_ := Aside0.mk (blk_below (g := gb495) (o := .cells #[.int .i64 a0_0, .int .i64 a0_1, .int .i64 a0_2] 31 (0, 0)) (by (with_reducible repeat (first | refine blk_drewN ?_ _ | refine blk_drew ?_ | refine blk_alloc ?_ _)); exact BK495.out) hb); have n3_ := Aside0.mk (below_step (by repeat (first | (with_reducible first | exact HB.out | apply below_alloc | apply pw_below_drewN | apply below_drew1 | refine below_set ?_ GE495.out) | exact HB.out)) hb); clear HO499; clear BK495; clear HB; have HO499 := n0_; have HO503 := n1_; have BK495 := n2_; have HB := n3_; clear n0_ n1_ n2_ n3_; clear hb ho61; obtain ⟨Ao63, co63, eo63⟩ := Kd.R_slice HO499.out; subst eo63) | ((with_reducible refine gate_builtin (b := .append) (xs := #[.tmp 38, .tmp 39]) rfl ?_); (try (refine gate_guard (by rfl) ?_; dsimp only)); at_builtin; refine Kd.R_append_rows (Kd.int .u8) (w0 := w) w.heap.size rfl (.tmp 38) (.tmp 39) 25 5 (.int .u8 0) 1 rfl Try.underlying25 info5 rfl (by decide) (by omega) v502 y501 t497 _ _ _ (fun k_ => some k_ ≠ (.slice Ao63 t497.length co63 : Value).ownBlock) (fun _ => False) rfl rfl ?aO ?aR (fun _ _ h => h) (fun _ h => h.elim) ?aF ?aB ?aS ?aL ?_; (case aR => repeat (first | exact (Kd.R_reads' HO499.out).2.2 | (with_reducible refine Kd.C_alloc ?_ _) | (with_reducible refine Kd.C_drewN ?_ _) | (with_reducible refine Kd.C_drew ?_))); (case aB => exact (by repeat (first | (with_reducible first | exact HB.out | apply below_alloc | apply pw_below_drewN | apply below_drew1 | refine below_set ?_ GE495.out) | exact HB.out))); (case aF => exact (fun k_ hk => Kd.fresh' (Kd.R_lt (by (with_reducible repeat (first | apply Kd.R_alloc | apply Kd.R_drewN | apply Kd.R_drew)); exact HO499.out)) k_ hk)); (case aO => exact (by (with_reducible repeat (first | apply Kd.R_alloc | apply Kd.R_drewN | apply Kd.R_drew)); exact Kd.R_mono HO503.out (fun _ hk => hk.2))); (case aS => exact (below_size (by repeat (first | (with_reducible first | exact HB.out | apply below_alloc | apply pw_below_drewN | apply below_drew1 | refine below_set ?_ GE495.out) | exact HB.out)))); (case aL => have := LMc10.out; omega); intro v505 w62 ho hb hg hat; rw [← Ny504.out] at ho; have n0_ := Aside0.mk (blk_grown (g := gb495) (o := .cells #[.int .i64 a0_0, .int .i64 a0_1, .int .i64 a0_2] 31 (0, 0)) (by (with_reducible repeat (first | refine blk_drewN ?_ _ | refine blk_drew ?_ | refine blk_alloc ?_ _)); exact BK495.out) hg (Kd.R_ne HO503.out BK495.out (by decide))); have n1_ := Aside0.mk (Kd.R_after (ok := (fun _ => True)) (by (with_reducible repeat (first | apply Kd.R_alloc | apply Kd.R_drewN | apply Kd.R_drew)); exact HO499.out) hg hat); have n2_ := Aside0.mk (hb); have n3_ := Aside0.mk (ho); clear BK495; clear HO499; clear HB; clear HO503; have BK495 := n0_; have HO499 := n1_; have HB := n2_; have HO506 := n3_; clear n0_ n1_ n2_ n3_; clear ho hb hg hat) | ((with_reducible refine gate_builtin (b := .append) (xs := #[.tmp 40, .tmp 41]) rfl ?_); (try (refine gate_guard (by rfl) ?_; dsimp only)); at_builtin; refine Kd.R_append_rows (Kd.int .u8) (w0 := w) w.heap.size rfl (.tmp 40) (.tmp 41) 25 5 (.int .u8 0) 1 rfl Try.underlying25 info5 rfl (by decide) (by omega) v505 y504 l2 _ _ _ (fun k_ => some k_ ≠ (.slice Ao63 t497.length co63 : Value).ownBlock) (fun _ => False) rfl rfl ?aO ?aR (fun _ _ h => h) (fun _ h => h.elim) ?aF ?aB ?aS ?aL ?_; (case aR => repeat (first | exact (Kd.C_below HR2.out HB.out) | (with_reducible refine Kd.C_alloc ?_ _) | (with_reducible refine Kd.C_drewN ?_ _) | (with_reducible refine Kd.C_drew ?_))); (case aB => exact (by repeat (first | (with_reducible first | exact HB.out | apply below_alloc | apply pw_below_drewN | apply below_drew1 | refine below_set ?_ GE495.out) | exact HB.out))); (case aF => exact (fun k_ hk => Kd.fresh' (Kd.R_lt (by (with_reducible repeat (first | apply Kd.R_alloc | apply Kd.R_drewN | apply Kd.R_drew)); exact HO499.out)) k_ hk)); (case aO => exact (by (with_reducible repeat (first | apply Kd.R_alloc | apply Kd.R_drewN | apply Kd.R_drew)); exact HO506.out)); (case aS => exact (below_size (by repeat (first | (with_reducible first | exact HB.out | apply below_alloc | apply pw_below_drewN | apply below_drew1 | refine below_set ?_ GE495.out) | exact HB.out)))); (case aL => have := LMc11.out; omega); intro v508 w64 ho hb hg hat; rw [← Ny507.out] at ho; have n0_ := Aside0.mk (blk_grown (g := gb495) (o := .cells #[.int .i64 a0_0, .int .i64 a0_1, .int .i64 a0_2] 31 (0, 0)) (by (with_reducible repeat (first | refine blk_drewN ?_ _ | refine blk_drew ?_ | refine blk_alloc ?_ _)); exact BK495.out) hg (Kd.R_ne HO506.out BK495.out (by decide))); have n1_ := Aside0.mk (Kd.R_after (ok := (fun _ => True)) (by (with_reducible repeat (first | apply Kd.R_alloc | apply Kd.R_drewN | apply Kd.R_drew)); exact HO499.out) hg hat); have n2_ := Aside0.mk (hb); have n3_ := Aside0.mk (ho); clear BK495; clear HO499; clear HB; clear HO506; have BK495 := n0_; have HO499 := n1_; have HB := n2_; have HO509 := n3_; clear n0_ n1_ n2_ n3_; clear ho hb hg hat; obtain ⟨Ao65, co65, eo65⟩ := Kd.R_slice HO509.out; subst eo65) | ((with_reducible refine gate_callee (f := 30) rfl ?_); refine goesL_ (some 44) rfl rfl Try.func30 (by kernel_rfl) rfl #[.slice Ao65 y507.length co65, .slice A1 l1.length c1] rfl (by (try simp only [List.map_toArray, List.map_cons, List.map_nil]); first | done | rfl | (simp only [List.length_drop, List.length_take]; rfl)) ?_; (with_reducible refine (oob_Unpack.calls k _ _ y507 _ _ l1 t510 t511 t512 t513 _ ?side1 ?side2 ?side3 ?side4 A12.out).mono ?_); (case side1 => repeat (first | exact (Kd.R_reads' HO509.out).2.2 | (with_reducible refine Kd.C_alloc ?_ _) | (with_reducible refine Kd.C_drewN ?_ _) | (with_reducible refine Kd.C_drew ?_))); (case side2 => exact (Kd.R_reads' HO509.out).2.1); (case side3 => repeat (first | exact (Kd.C_below HR1.out HB.out) | (with_reducible refine Kd.C_alloc ?_ _) | (with_reducible refine Kd.C_drewN ?_ _) | (with_reducible refine Kd.C_drew ?_))); (case side4 => exact HC1.out); rintro e w66 ⟨rfl, hb⟩; refine ⟨_, rfl, ?_⟩; have n0_ := Aside0.mk (Kd.R_below (by (with_reducible repeat (first | apply Kd.R_alloc | apply Kd.R_drewN | apply Kd.R_drew)); exact HO499.out) hb); have n1_ := Aside0.mk (Kd.R_below (by (with_reducible repeat (first | apply Kd.R_alloc | apply Kd.R_drewN | apply Kd.R_drew)); exact HO509.out) hb); have n2_ := Aside0.mk (blk_below (g := gb495) (o := .cells #[.int .i64 a0_0, .int .i64 a0_1, .int .i64 a0_2] 31 (0, 0)) (by (with_reducible repeat (first | refine blk_drewN ?_ _ | refine blk_drew ?_ | refine blk_alloc ?_ _)); exact BK495.out) hb); have n3_ := Aside0.mk (below_step (by repeat (first | (with_reducible first | exact HB.out | apply below_alloc | apply pw_below_drewN | apply below_drew1 | refine below_set ?_ GE495.out) | exact HB.out)) hb); clear HO499; clear HO509; clear BK495; clear HB; have HO499 := n0_; have HO509 := n1_; have BK495 := n2_; have HB := n3_; clear n0_ n1_ n2_ n3_; (try clear hb); (try clear hb2); (try clear hk); (try clear hi)) | ((with_reducible refine gate_dst (N := 10) rfl ?_); (try (refine gate_guard (by rfl) ?_; dsimp only)); refine box_event ?hg (N := 10) ?hd (cs := #[.int .i64 0, .int .i64 0, .int .i64 0]) (t := 31) ?hr ?_; (case hd => rfl); (case hg => rfl); (case hr => first | (go_simp; done) | (go_simp; rfl)); intro gb514 hg w67 hbox hb; have n0_ := Aside0.mk (Kd.R_below (by (with_reducible repeat (first | apply Kd.R_alloc | apply Kd.R_drewN | apply Kd.R_drew)); exact HO499.out) hb); have n1_ := Aside0.mk (Kd.R_below (by (with_reducible repeat (first | apply Kd.R_alloc | apply Kd.R_drewN | apply Kd.R_drew)); exact HO509.out) hb); have n2_ := Aside0.mk (blk_below (g := gb495) (o := .cells #[.int .i64 a0_0, .int .i64 a0_1, .int .i64 a0_2] 31 (0, 0)) (by (with_reducible repeat (first | refine blk_drewN ?_ _ | refine blk_drew ?_ | refine blk_alloc ?_ _)); exact BK495.out) hb); have n3_ := Aside0.mk (below_step (by repeat (first | (with_reducible first | exact HB.out | apply below_alloc | apply pw_below_drewN | apply below_drew1 | refine below_set ?_ GE495.out) | exact HB.out)) hb); have n4_ := Aside0.mk (hbox); have n5_ := Aside0.mk ((by rw [hg]; exact (below_size (by repeat (first | (with_reducible first | exact HB.out | apply below_alloc | apply pw_below_drewN | apply below_drew1 | refine below_set ?_ GE495.out) | exact HB.out))) : w.heap.size ≤ gb514)); have n6_ := Aside0.mk ((by rw [hg]; exact (below_size (by repeat (first | (with_reducible first | exact HB.out | apply below_alloc | apply pw_below_drewN | apply below_drew1 | refine below_set ?_ GE495.out) | exact HB.out))) : w.heap.size ≤ gb514)); have n7_ := Aside0.mk ((by rw [hg]; exact Nat.ne_of_lt (blk_lt (g := gb495) (o := .cells #[.int .i64 a0_0, .int .i64 a0_1, .int .i64 a0_2] 31 (0, 0)) (by (with_reducible repeat (first | refine blk_drewN ?_ _ | refine blk_drew ?_ | refine blk_alloc ?_ _)); exact BK495.out)) : gb495 ≠ gb514)); have n8_ := Aside0.mk ((by rw [hg]; exact Nat.ne_of_gt (blk_lt (g := gb495) (o := .cells #[.int .i64 a0_0, .int .i64 a0_1, .int .i64 a0_2] 31 (0, 0)) (by (with_reducible repeat (first | refine blk_drewN ?_ _ | refine blk_drew ?_ | refine blk_alloc ?_ _)); exact BK495.out)) : gb514 ≠ gb495)); clear HO499; clear HO509; clear BK495; clear HB; have HO499 := n0_; have HO509 := n1_; have BK495 := n2_; have HB := n3_; have BK514 := n4_; have GW514 := n5_; have GE514 := n6_; have NB495_514 := n7_; have NB514_495 := n8_; clear n0_ n1_ n2_ n3_ n4_ n5_ n6_ n7_ n8_; clear hb hbox hg; have hnb68 := NB514_495.out; have hnc68 := NB495_514.out; have hcz69_0 : w67.cell? ⟨gb514, 0, none⟩ = some (.int .i64 0) := (blk_cell BK514.out 0).trans rfl; have hcz69_1 : w67.cell? ⟨gb514, 1, none⟩ = some (.int .i64 0) := (blk_cell BK514.out 1).trans rfl; have hcz69_2 : w67.cell? ⟨gb514, 2, none⟩ = some (.int .i64 0) := (blk_cell BK514.out 2).trans rfl; have hfz69_0 := blk_frozen BK514.out 0; have hfz69_1 := blk_frozen BK514.out 1; have hfz69_2 := blk_frozen BK514.out 2) | ((with_reducible refine gate_dst (N := 49) rfl ?_); (try (refine gate_guard (by rfl) ?_; dsimp only)); refine Kd.R_lit (Kd.int .u8) _ 5 ?hg (N := 49) ?hd (xs := ([] : List Int)) (inner := []) (ok := fun _ => True) (okp := fun _ => True) ?hr ?hp (fun _ hk => hk) trivial (Below.refl _ _) (Nat.le_refl _) (by simp) ?_; (case hd => rfl); (case hg => rfl); (case hr => first | (go_simp; done) | (go_simp; rfl)); (case hp => exact (Reps.none _ _)); intro v516 w70 ho71 hb hg_ hnew_; clear hg_ hnew_; (first | rw [← Ny515.out] at ho71 | (simp only [Int.reduceToNat] at ho71; rw [← Ny515.out] at ho71)); have n0_ := Aside0.mk (Kd.R_elder' (by (with_reducible repeat (first | apply Kd.R_alloc | apply Kd.R_drewN | apply Kd.R_drew)); exact (Kd.R_mono (Kd.R_far (p := ⟨gb514, 2, none⟩) (Kd.R_far (p := ⟨gb514, 1, none⟩) (Kd.R_far (p := ⟨gb514, 0, none⟩) (Kd.R_types HO499.out BK514.out (by decide)) (fun _ hk => hk.2) (.int .i64 t510)) (fun _ hk => hk.2) (.int .i64 t511)) (fun _ hk => hk.2) (.int .i64 t512)) (fun _ h_ => h_.1))) (Kd.R_base ho71) hb); have n1_ := Aside0.mk (Kd.R_elder' (by (with_reducible repeat (first | apply Kd.R_alloc | apply Kd.R_drewN | apply Kd.R_drew)); exact (Kd.R_mono (Kd.R_far (p := ⟨gb514, 2, none⟩) (Kd.R_far (p := ⟨gb514, 1, none⟩) (Kd.R_far (p := ⟨gb514, 0, none⟩) (Kd.R_types HO509.out BK514.out (by decide)) (fun _ hk => hk.2) (.int .i64 t510)) (fun _ hk => hk.2) (.int .i64 t511)) (fun _ hk => hk.2) (.int .i64 t512)) (fun _ h_ => h_.1))) (Kd.R_base ho71) hb); have n2_ := Aside0.mk (Kd.R_lower (Kd.R_new' (Kd.R_new' ho71 (Kd.R_lt (by (with_reducible repeat (first | apply Kd.R_alloc | apply Kd.R_drewN | apply Kd.R_drew)); exact (Kd.R_mono (Kd.R_far (p := ⟨gb514, 2, none⟩) (Kd.R_far (p := ⟨gb514, 1, none⟩) (Kd.R_far (p := ⟨gb514, 0, none⟩) (Kd.R_types HO499.out BK514.out (by decide)) (fun _ hk => hk.2) (.int .i64 t510)) (fun _ hk => hk.2) (.int .i64 t511)) (fun _ hk => hk.2) (.int .i64 t512)) (fun _ h_ => h_.1))))) (Kd.R_lt (by (with_reducible repeat (first | apply Kd.R_alloc | apply Kd.R_drewN | apply Kd.R_drew)); exact (Kd.R_mono (Kd.R_far (p := ⟨gb514, 2, none⟩) (Kd.R_far (p := ⟨gb514, 1, none⟩) (Kd.R_far (p := ⟨gb514, 0, none⟩) (Kd.R_types HO509.out BK514.out (by decide)) (fun _ hk => hk.2) (.int .i64 t510)) (fun _ hk => hk.2) (.int .i64 t511)) (fun _ hk => hk.2) (.int .i64 t512)) (fun _ h_ => h_.1))))) (below_size (by repeat (first | (with_reducible first | exact HB.out | apply below_alloc | apply pw_below_drewN | apply below_drew1 | refine below_set ?_ GE495.out | refine below_set ?_ GE514.out) | exact HB.out)))); have n3_ := Aside0.mk (blk_below (g := gb495) (o := .cells #[.int .i64 a0_0, .int .i64 a0_1, .int .i64 a0_2] 31 (0, 0)) (by (with_reducible repeat (first | refine blk_drewN ?_ _ | refine blk_drew ?_ | refine blk_alloc ?_ _)); refine blk_far ?_ NB495_514.out _; (with_reducible repeat (first | refine blk_drewN ?_ _ | refine blk_drew ?_ | refine blk_alloc ?_ _)); refine blk_far ?_ NB495_514.out _; (with_reducible repeat (first | refine blk_drewN ?_ _ | refine blk_drew ?_ | refine blk_alloc ?_ _)); refine blk_far ?_ NB495_514.out _; (with_reducible repeat (first | refine blk_drewN ?_ _ | refine blk_drew ?_ | refine blk_alloc ?_ _)); exact BK495.out) hb); have n4_ := Aside0.mk (blk_below (g := gb514) (o := .cells #[.int .i64 t510, .int .i64 t511, .int .i64 t512] 31 (0, 0)) (by (with_reducible repeat (first | refine blk_drewN ?_ _ | refine blk_drew ?_ | refine blk_alloc ?_ _)); refine blk_put (cs := #[.int .i64 t510, .int .i64 t511, .int .i64 0]) ?_ 2 _ rfl; (with_reducible repeat (first | refine blk_drewN ?_ _ | refine blk_drew ?_ | refine blk_alloc ?_ _)); refine blk_put (cs := #[.int .i64 t510, .int .i64 0, .int .i64 0]) ?_ 1 _ rfl; (with_reducible repeat (first | refine blk_drewN ?_ _ | refine blk_drew ?_ | refine blk_alloc ?_ _)); refine blk_put (cs := #[.int .i64 0, .int .i64 0, .int .i64 0]) ?_ 0 _ rfl; (with_reducible repeat (first | refine blk_drewN ?_ _ | refine blk_drew ?_ | refine blk_alloc ?_ _)); exact BK514.out) hb); have n5_ := Aside0.mk (below_step (by repeat (first | (with_reducible first | exact HB.out | apply below_alloc | apply pw_below_drewN | apply below_drew1 | refine below_set ?_ GE495.out | refine below_set ?_ GE514.out) | exact HB.out)) hb); clear HO499; clear HO509; clear BK495; clear BK514; clear HB; have HO499 := n0_; have HO509 := n1_; have HO517 := n2_; have BK495 := n3_; have BK514 := n4_; have HB := n5_; clear n0_ n1_ n2_ n3_ n4_ n5_; clear hb ho71) | ((with_reducible refine gate_builtin (b := .append) (xs := #[.tmp 49, .tmp 50]) rfl ?_); (try (refine gate_guard (by rfl) ?_; dsimp only)); at_builtin; refine Kd.R_append_rows (Kd.int .u8) (w0 := w) w.heap.size rfl (.tmp 49) (.tmp 50) 25 5 (.int .u8 0) 1 rfl Try.underlying25 info5 rfl (by decide) (by omega) v516 y515 l1 _ _ _ (fun k_ => some k_ ≠ (.slice Ao63 t497.length co63 : Value).ownBlock ∧ some k_ ≠ (.slice Ao65 y507.length co65 : Value).ownBlock) (fun _ => False) rfl rfl ?aO ?aR (fun _ _ h => h) (fun _ h => h.elim) ?aF ?aB ?aS ?aL ?_; (case aR => repeat (first | exact (Kd.C_below HR1.out HB.out) | (with_reducible refine Kd.C_alloc ?_ _) | (with_reducible refine Kd.C_drewN ?_ _) | (with_reducible refine Kd.C_drew ?_))); (case aB => exact (by repeat (first | (with_reducible first | exact HB.out | apply below_alloc | apply pw_below_drewN | apply below_drew1 | refine below_set ?_ GE495.out | refine below_set ?_ GE514.out) | exact HB.out))); (case aF => exact (fun k_ hk => ⟨Kd.fresh' (Kd.R_lt (by (with_reducible repeat (first | apply Kd.R_alloc | apply Kd.R_drewN | apply Kd.R_drew)); exact HO499.out)) k_ hk, Kd.fresh' (Kd.R_lt (by (with_reducible repeat (first | apply Kd.R_alloc | apply Kd.R_drewN | apply Kd.R_drew)); exact HO509.out)) k_ hk⟩)); (case aO => exact (by (with_reducible repeat (first | apply Kd.R_alloc | apply Kd.R_drewN | apply Kd.R_drew)); exact Kd.R_mono HO517.out (fun _ hk => ⟨hk.1.2, hk.2⟩))); (case aS => exact (below_size (by repeat (first | (with_reducible first | exact HB.out | apply below_alloc | apply pw_below_drewN | apply below_drew1 | refine below_set ?_ GE495.out | refine below_set ?_ GE514.out) | exact HB.out)))); (case aL => have := LMc13.out; omega); intro v519 w72 ho hb hg hat; rw [← Ny518.out] at ho; have n0_ := Aside0.mk (blk_grown (g := gb495) (o := .cells #[.int .i64 a0_0, .int .i64 a0_1, .int .i64 a0_2] 31 (0, 0)) (by (with_reducible repeat (first | refine blk_drewN ?_ _ | refine blk_drew ?_ | refine blk_alloc ?_ _)); exact BK495.out) hg (Kd.R_ne HO517.out BK495.out (by decide))); have n1_ := Aside0.mk (Kd.R_after (ok := (fun k_ => some k_ ≠ (.slice Ao65 y507.length co65 : Value).ownBlock)) (by (with_reducible repeat (first | apply Kd.R_alloc | apply Kd.R_drewN | apply Kd.R_drew)); exact Kd.R_mono HO499.out (fun _ hk => ⟨hk.1.2, hk.2⟩)) hg hat); have n2_ := Aside0.mk (Kd.R_after (ok := (fun k_ => some k_ ≠ (.slice Ao63 t497.length co63 : Value).ownBlock)) (by (with_reducible repeat (first | apply Kd.R_alloc | apply Kd.R_drewN | apply Kd.R_drew)); exact HO509.out) hg hat); have n3_ := Aside0.mk (blk_grown (g := gb514) (o := .cells #[.int .i64 t510, .int .i64 t511, .int .i64 t512] 31 (0, 0)) (by (with_reducible repeat (first | refine blk_drewN ?_ _ | refine blk_drew ?_ | refine blk_alloc ?_ _)); exact BK514.out) hg (Kd.R_ne HO517.out BK514.out (by decide))); have n4_ := Aside0.mk (hb); have n5_ := Aside0.mk (ho); clear BK495; clear HO499; clear HO509; clear BK514; clear HB; clear HO517; have BK495 := n0_; have HO499 := n1_; have HO509 := n2_; have BK514 := n3_; have HB := n4_; have HO520 := n5_; clear n0_ n1_ n2_ n3_ n4_ n5_; clear ho hb hg hat) | ((with_reducible refine gate_builtin (b := .append) (xs := #[.tmp 51, .tmp 52]) rfl ?_); (try (refine gate_guard (by rfl) ?_; dsimp only)); at_builtin; refine Kd.R_append_rows (Kd.int .u8) (w0 := w) w.heap.size rfl (.tmp 51) (.tmp 52) 25 5 (.int .u8 0) 1 rfl Try.underlying25 info5 rfl (by decide) (by omega) v519 y518 l2 _ _ _ (fun k_ => some k_ ≠ (.slice Ao63 t497.length co63 : Value).ownBlock ∧ some k_ ≠ (.slice Ao65 y507.length co65 : Value).ownBlock) (fun _ => False) rfl rfl ?aO ?aR (fun _ _ h => h) (fun _ h => h.elim) ?aF ?aB ?aS ?aL ?_; (case aR => repeat (first | exact (Kd.C_below HR2.out HB.out) | (with_reducible refine Kd.C_alloc ?_ _) | (with_reducible refine Kd.C_drewN ?_ _) | (with_reducible refine Kd.C_drew ?_))); (case aB => exact (by repeat (first | (with_reducible first | exact HB.out | apply below_alloc | apply pw_below_drewN | apply below_drew1 | refine below_set ?_ GE495.out | refine below_set ?_ GE514.out) | exact HB.out))); (case aF => exact (fun k_ hk => ⟨Kd.fresh' (Kd.R_lt (by (with_reducible repeat (first | apply Kd.R_alloc | apply Kd.R_drewN | apply Kd.R_drew)); exact HO499.out)) k_ hk, Kd.fresh' (Kd.R_lt (by (with_reducible repeat (first | apply Kd.R_alloc | apply Kd.R_drewN | apply Kd.R_drew)); exact HO509.out)) k_ hk⟩)); (case aO => exact (by (with_reducible repeat (first | apply Kd.R_alloc | apply Kd.R_drewN | apply Kd.R_drew)); exact HO520.out)); (case aS => exact (below_size (by repeat (first | (with_reducible first | exact HB.out | apply below_alloc | apply pw_below_drewN | apply below_drew1 | refine below_set ?_ GE495.out | refine below_set ?_ GE514.out) | exact HB.out)))); (case aL => have := LMc14.out; omega); intro v522 w73 ho hb hg hat; rw [← Ny521.out] at ho; have n0_ := Aside0.mk (blk_grown (g := gb495) (o := .cells #[.int .i64 a0_0, .int .i64 a0_1, .int .i64 a0_2] 31 (0, 0)) (by (with_reducible repeat (first | refine blk_drewN ?_ _ | refine blk_drew ?_ | refine blk_alloc ?_ _)); exact BK495.out) hg (Kd.R_ne HO520.out BK495.out (by decide))); have n1_ := Aside0.mk (Kd.R_after (ok := (fun k_ => some k_ ≠ (.slice Ao65 y507.length co65 : Value).ownBlock)) (by (with_reducible repeat (first | apply Kd.R_alloc | apply Kd.R_drewN | apply Kd.R_drew)); exact HO499.out) hg hat); have n2_ := Aside0.mk (Kd.R_after (ok := (fun k_ => some k_ ≠ (.slice Ao63 t497.length co63 : Value).ownBlock)) (by (with_reducible repeat (first | apply Kd.R_alloc | apply Kd.R_drewN | apply Kd.R_drew)); exact HO509.out) hg hat); have n3_ := Aside0.mk (blk_grown (g := gb514) (o := .cells #[.int .i64 t510, .int .i64 t511, .int .i64 t512] 31 (0, 0)) (by (with_reducible repeat (first | refine blk_drewN ?_ _ | refine blk_drew ?_ | refine blk_alloc ?_ _)); exact BK514.out) hg (Kd.R_ne HO520.out BK514.out (by decide))); have n4_ := Aside0.mk (hb); have n5_ := Aside0.mk (ho); clear BK495; clear HO499; clear HO509; clear BK514; clear HB; clear HO520; have BK495 := n0_; have HO499 := n1_; have HO509 := n2_; have BK514 := n3_; have HB := n4_; have HO523 := n5_; clear n0_ n1_ n2_ n3_ n4_ n5_; clear ho hb hg hat; obtain ⟨Ao74, co74, eo74⟩ := Kd.R_slice HO523.out; subst eo74) | ((with_reducible refine gate_callee (f := 30) rfl ?_); refine goesL_ (some 54) rfl rfl Try.func30 (by kernel_rfl) rfl #[.slice Ao63 t497.length co63, .slice Ao74 y521.length co74] rfl (by (try simp only [List.map_toArray, List.map_cons, List.map_nil]); first | done | rfl | (simp only [List.length_drop, List.length_take]; rfl)) ?_; (with_reducible refine (oob_Unpack.calls k _ _ t497 _ _ y521 t524 t525 t526 t527 _ ?side1 ?side2 ?side3 ?side4 A15.out).mono ?_); (case side1 => repeat (first | exact (Kd.R_reads' HO499.out).2.2 | (with_reducible refine Kd.C_alloc ?_ _) | (with_reducible refine Kd.C_drewN ?_ _) | (with_reducible refine Kd.C_drew ?_))); (case side2 => exact (Kd.R_reads' HO499.out).2.1); (case side3 => repeat (first | exact (Kd.R_reads' HO523.out).2.2 | (with_reducible refine Kd.C_alloc ?_ _) | (with_reducible refine Kd.C_drewN ?_ _) | (with_reducible refine Kd.C_drew ?_))); (case side4 => exact (Kd.R_reads' HO523.out).2.1); rintro e w75 ⟨rfl, hb⟩; refine ⟨_, rfl, ?_⟩; have n0_ := Aside0.mk (Kd.R_below (by (with_reducible repeat (first | apply Kd.R_alloc | apply Kd.R_drewN | apply Kd.R_drew)); exact HO499.out) hb); have n1_ := Aside0.mk (Kd.R_below (by (with_reducible repeat (first | apply Kd.R_alloc | apply Kd.R_drewN | apply Kd.R_drew)); exact HO509.out) hb); have n2_ := Aside0.mk (Kd.R_below (by (with_reducible repeat (first | apply Kd.R_alloc | apply Kd.R_drewN | apply Kd.R_drew)); exact HO523.out) hb); have n3_ := Aside0.mk (blk_below (g := gb495) (o := .cells #[.int .i64 a0_0, .int .i64 a0_1, .int .i64 a0_2] 31 (0, 0)) (by (with_reducible repeat (first | refine blk_drewN ?_ _ | refine blk_drew ?_ | refine blk_alloc ?_ _)); exact BK495.out) hb); have n4_ := Aside0.mk (blk_below (g := gb514) (o := .cells #[.int .i64 t510, .int .i64 t511, .int .i64 t512] 31 (0, 0)) (by (with_reducible repeat (first | refine blk_drewN ?_ _ | refine blk_drew ?_ | refine blk_alloc ?_ _)); exact BK514.out) hb); have n5_ := Aside0.mk (below_step (by repeat (first | (with_reducible first | exact HB.out | apply below_alloc | apply pw_below_drewN | apply below_drew1 | refine below_set ?_ GE495.out | refine below_set ?_ GE514.out) | exact HB.out)) hb); clear HO499; clear HO509; clear HO523; clear BK495; clear BK514; clear HB; have HO499 := n0_; have HO509 := n1_; have HO523 := n2_; have BK495 := n3_; have BK514 := n4_; have HB := n5_; clear n0_ n1_ n2_ n3_ n4_ n5_; (try clear hb); (try clear hb2); (try clear hk); (try clear hi)) | ((with_reducible refine gate_dst (N := 12) rfl ?_); (try (refine gate_guard (by rfl) ?_; dsimp only)); refine box_event ?hg (N := 12) ?hd (cs := #[.int .i64 0, .int .i64 0, .int .i64 0]) (t := 31) ?hr ?_; (case hd => rfl); (case hg => rfl); (case hr => first | (go_simp; done) | (go_simp; rfl)); intro gb528 hg w76 hbox hb; have n0_ := Aside0.mk (Kd.R_below (by (with_reducible repeat (first | apply Kd.R_alloc | apply Kd.R_drewN | apply Kd.R_drew)); exact HO499.out) hb); have n1_ := Aside0.mk (Kd.R_below (by (with_reducible repeat (first | apply Kd.R_alloc | apply Kd.R_drewN | apply Kd.R_drew)); exact HO509.out) hb); have n2_ := Aside0.mk (Kd.R_below (by (with_reducible repeat (first | apply Kd.R_alloc | apply Kd.R_drewN | apply Kd.R_drew)); exact HO523.out) hb); have n3_ := Aside0.mk (blk_below (g := gb495) (o := .cells #[.int .i64 a0_0, .int .i64 a0_1, .int .i64 a0_2] 31 (0, 0)) (by (with_reducible repeat (first | refine blk_drewN ?_ _ | refine blk_drew ?_ | refine blk_alloc ?_ _)); exact BK495.out) hb); have n4_ := Aside0.mk (blk_below (g := gb514) (o := .cells #[.int .i64 t510, .int .i64 t511, .int .i64 t512] 31 (0, 0)) (by (with_reducible repeat (first | refine blk_drewN ?_ _ | refine blk_drew ?_ | refine blk_alloc ?_ _)); exact BK514.out) hb); have n5_ := Aside0.mk (below_step (by repeat (first | (with_reducible first | exact HB.out | apply below_alloc | apply pw_below_drewN | apply below_drew1 | refine below_set ?_ GE495.out | refine below_set ?_ GE514.out) | exact HB.out)) hb); have n6_ := Aside0.mk (hbox); have n7_ := Aside0.mk ((by rw [hg]; exact (below_size (by repeat (first | (with_reducible first | exact HB.out | apply below_alloc | apply pw_below_drewN | apply below_drew1 | refine below_set ?_ GE495.out | refine below_set ?_ GE514.out) | exact HB.out))) : w.heap.size ≤ gb528)); have n8_ := Aside0.mk ((by rw [hg]; exact (below_size (by repeat (first | (with_reducible first | exact HB.out | apply below_alloc | apply pw_below_drewN | apply below_drew1 | refine below_set ?_ GE495.out | refine below_set ?_ GE514.out) | exact HB.out))) : w.heap.size ≤ gb528)); have n9_ := Aside0.mk ((by rw [hg]; exact Nat.ne_of_lt (blk_lt (g := gb495) (o := .cells #[.int .i64 a0_0, .int .i64 a0_1, .int .i64 a0_2] 31 (0, 0)) (by (with_reducible repeat (first | refine blk_drewN ?_ _ | refine blk_drew ?_ | refine blk_alloc ?_ _)); exact BK495.out)) : gb495 ≠ gb528)); have n10_ := Aside0.mk ((by rw [hg]; exact Nat.ne_of_gt (blk_lt (g := gb495) (o := .cells #[.int .i64 a0_0, .int .i64 a0_1, .int .i64 a0_2] 31 (0, 0)) (by (with_reducible repeat (first | refine blk_drewN ?_ _ | refine blk_drew ?_ | refine blk_alloc ?_ _)); exact BK495.out)) : gb528 ≠ gb495)); have n11_ := Aside0.mk ((by rw [hg]; exact Nat.ne_of_lt (blk_lt (g := gb514) (o := .cells #[.int .i64 t510, .int .i64 t511, .int .i64 t512] 31 (0, 0)) (by (with_reducible repeat (first | refine blk_drewN ?_ _ | refine blk_drew ?_ | refine blk_alloc ?_ _)); exact BK514.out)) : gb514 ≠ gb528)); have n12_ := Aside0.mk ((by rw [hg]; exact Nat.ne_of_gt (blk_lt (g := gb514) (o := .cells #[.int .i64 t510, .int .i64 t511, .int .i64 t512] 31 (0, 0)) (by (with_reducible repeat (first | refine blk_drewN ?_ _ | refine blk_drew ?_ | refine blk_alloc ?_ _)); exact BK514.out)) : gb528 ≠ gb514)); clear HO499; clear HO509; clear HO523; clear BK495; clear BK514; clear HB; have HO499 := n0_; have HO509 := n1_; have HO523 := n2_; have BK495 := n3_; have BK514 := n4_; have HB := n5_; have BK528 := n6_; have GW528 := n7_; have GE528 := n8_; have NB495_528 := n9_; have NB528_495 := n10_; have NB514_528 := n11_; have NB528_514 := n12_; clear n0_ n1_ n2_ n3_ n4_ n5_ n6_ n7_ n8_ n9_ n10_ n11_ n12_; clear hb hbox hg; have hnb77 := NB528_495.out; have hnc77 := NB495_528.out; have hnb78 := NB528_514.out; have hnc78 := NB514_528.out; have hcz79_0 : w76.cell? ⟨gb528, 0, none⟩ = some (.int .i64 0) := (blk_cell BK528.out 0).trans rfl; have hcz79_1 : w76.cell? ⟨gb528, 1, none⟩ = some (.int .i64 0) := (blk_cell BK528.out 1).trans rfl; have hcz79_2 : w76.cell? ⟨gb528, 2, none⟩ = some (.int .i64 0) := (blk_cell BK528.out 2).trans rfl; have hfz79_0 := blk_frozen BK528.out 0; have hfz79_1 := blk_frozen BK528.out 1; have hfz79_2 := blk_frozen BK528.out 2))
                (try simp only [Act.put, List.setIfInBounds_toArray, List.set_cons_zero, List.set_cons_succ])
                go_cut [6] (fun v6 wc => ∃ (kq : Nat) (x6_54 : Bool), v6 = .bool x6_54 ∧ Aside0 (strakelaw05_OobLong.j2 kq x6_54 = some r) ∧ Aside0 (kq ≤ k) ∧ Aside0 (wc.heap[gb495]? = some (.cells #[.int .i64 a0_0, .int .i64 a0_1, .int .i64 a0_2] 31 (0, 0))) ∧ Aside0 (wc.heap[gb514]? = some (.cells #[.int .i64 t510, .int .i64 t511, .int .i64 t512] 31 (0, 0))) ∧ Aside0 (wc.heap[gb528]? = some (.cells #[.int .i64 t524, .int .i64 t525, .int .i64 t526] 31 (0, 0))) ∧ Aside0 (Below w.heap.size w wc))
                case first =>
                  have H := HC55.out
                  clear HC55
                  by_cases c80 : t496 = true
                  · subst c80
                    have H1 : (if t513 = 3 then (if t527 = 3 then (if (t510 == 0 && (t511 == 0 && (t512 == 0))) = true then (strakelaw05_OobLong.j2 k (t524 == 0 && (t525 == 0 && (t526 == 0)))) else (strakelaw05_OobLong.j2 k false)) else (strakelaw05_OobLong.j2 k false)) else (strakelaw05_OobLong.j2 k false)) = some r := by rw [if_pos rfl] at H; exact H
                    clear H
                    have H := H1
                    clear H1
                    by_cases c81 : t513 = 3
                    · rw [if_pos c81] at H
                      have c81b0 : (t513 == 3) = true := beq_iff_eq.mpr c81
                      have c81b1 : (t513 != 3) = false := bne_eq_false_iff_eq.mpr c81
                      clear c81
                      (first | rw [c81b0] | (simp only [i64_w, i32_w]; rw [c81b0]) | skip)
                      by_cases c82 : t527 = 3
                      · rw [if_pos c82] at H
                        have c82b0 : (t527 == 3) = true := beq_iff_eq.mpr c82
                        have c82b1 : (t527 != 3) = false := bne_eq_false_iff_eq.mpr c82
                        clear c82
                        by_cases c83 : (t510 == 0 && (t511 == 0 && (t512 == 0))) = true
                        · rw [if_pos c83] at H
                          have c83b0 : (t510 == 0 && (t511 == 0 && (t512 == 0))) = true := c83
                          (try (have c83b1 : decide (t510 = 0 && (t511 == 0 && (t512 == 0))) = true := by simpa using c83))
                          (try (have c83b2 : (t510 == 0 && (t511 == 0 && (t512 == 0))) = true := by simpa using c83))
                          clear c83
                          have H' := Aside0.mk H
                          clear H
                          have hnb84 := NB514_495.out
                          have hnc84 := NB495_514.out
                          have hnb85 := NB514_528.out
                          have hnc85 := NB528_514.out
                          have hcz86_0 : w76.cell? ⟨gb514, 0, none⟩ = some (.int .i64 t510) := (blk_cell BK514.out 0).trans rfl
                          have hcz86_1 : w76.cell? ⟨gb514, 1, none⟩ = some (.int .i64 t511) := (blk_cell BK514.out 1).trans rfl
                          have hcz86_2 : w76.cell? ⟨gb514, 2, none⟩ = some (.int .i64 t512) := (blk_cell BK514.out 2).trans rfl
                          have hfz86_0 := blk_frozen BK514.out 0
                          have hfz86_1 := blk_frozen BK514.out 1
                          have hfz86_2 := blk_frozen BK514.out 2
                          have hnb87 := NB528_495.out
                          have hnc87 := NB495_528.out
                          have hcz88_0 : w76.cell? ⟨gb528, 0, none⟩ = some (.int .i64 0) := (blk_cell BK528.out 0).trans rfl
                          have hcz88_1 : w76.cell? ⟨gb528, 1, none⟩ = some (.int .i64 0) := (blk_cell BK528.out 1).trans rfl
                          have hcz88_2 : w76.cell? ⟨gb528, 2, none⟩ = some (.int .i64 0) := (blk_cell BK528.out 2).trans rfl
                          have hfz88_0 := blk_frozen BK528.out 0
                          have hfz88_1 := blk_frozen BK528.out 1
                          have hfz88_2 := blk_frozen BK528.out 2
                          go_wp2
                          go_meet
                          case rel => exact ⟨_, ((t524 == 0 && (t525 == 0 && (t526 == 0)))), (by first | rfl | (simp; done) | (simp [*]; done)), H', ⟨by first | omega | exact Nat.le_refl _⟩, ⟨by (with_reducible repeat (first | refine blk_drewN ?_ _ | refine blk_drew ?_ | refine blk_alloc ?_ _)); refine blk_far ?_ NB495_528.out _; (with_reducible repeat (first | refine blk_drewN ?_ _ | refine blk_drew ?_ | refine blk_alloc ?_ _)); refine blk_far ?_ NB495_528.out _; (with_reducible repeat (first | refine blk_drewN ?_ _ | refine blk_drew ?_ | refine blk_alloc ?_ _)); refine blk_far ?_ NB495_528.out _; (with_reducible repeat (first | refine blk_drewN ?_ _ | refine blk_drew ?_ | refine blk_alloc ?_ _)); exact BK495.out⟩, ⟨by (with_reducible repeat (first | refine blk_drewN ?_ _ | refine blk_drew ?_ | refine blk_alloc ?_ _)); refine blk_far ?_ NB514_528.out _; (with_reducible repeat (first | refine blk_drewN ?_ _ | refine blk_drew ?_ | refine blk_alloc ?_ _)); refine blk_far ?_ NB514_528.out _; (with_reducible repeat (first | refine blk_drewN ?_ _ | refine blk_drew ?_ | refine blk_alloc ?_ _)); refine blk_far ?_ NB514_528.out _; (with_reducible repeat (first | refine blk_drewN ?_ _ | refine blk_drew ?_ | refine blk_alloc ?_ _)); exact BK514.out⟩, ⟨by (with_reducible repeat (first | refine blk_drewN ?_ _ | refine blk_drew ?_ | refine blk_alloc ?_ _)); refine blk_put (cs := #[.int .i64 t524, .int .i64 t525, .int .i64 0]) ?_ 2 _ rfl; (with_reducible repeat (first | refine blk_drewN ?_ _ | refine blk_drew ?_ | refine blk_alloc ?_ _)); refine blk_put (cs := #[.int .i64 t524, .int .i64 0, .int .i64 0]) ?_ 1 _ rfl; (with_reducible repeat (first | refine blk_drewN ?_ _ | refine blk_drew ?_ | refine blk_alloc ?_ _)); refine blk_put (cs := #[.int .i64 0, .int .i64 0, .int .i64 0]) ?_ 0 _ rfl; (with_reducible repeat (first | refine blk_drewN ?_ _ | refine blk_drew ?_ | refine blk_alloc ?_ _)); exact BK528.out⟩, ⟨by repeat (first | (with_reducible first | exact HB.out | apply below_alloc | apply pw_below_drewN | apply below_drew1 | refine below_set ?_ GE495.out | refine below_set ?_ GE514.out | refine below_set ?_ GE528.out) | exact HB.out)⟩⟩
                        · rw [if_neg c83] at H
                          have c83b0 : (t510 == 0 && (t511 == 0 && (t512 == 0))) = false := by simpa using c83
                          (try (have c83b1 : decide (t510 = 0 && (t511 == 0 && (t512 == 0))) = false := by simpa using c83))
                          (try (have c83b2 : (t510 == 0 && (t511 == 0 && (t512 == 0))) = false := by simpa using c83))
                          (try (have c83b3 : ¬ (t510 = 0 && (t511 == 0 && (t512 == 0))) := by simpa using c83))
                          clear c83
                          have H' := Aside0.mk H
                          clear H
                          have hnb89 := NB514_495.out
                          have hnc89 := NB495_514.out
                          have hnb90 := NB514_528.out
                          have hnc90 := NB528_514.out
                          have hcz91_0 : w76.cell? ⟨gb514, 0, none⟩ = some (.int .i64 t510) := (blk_cell BK514.out 0).trans rfl
                          have hcz91_1 : w76.cell? ⟨gb514, 1, none⟩ = some (.int .i64 t511) := (blk_cell BK514.out 1).trans rfl
                          have hcz91_2 : w76.cell? ⟨gb514, 2, none⟩ = some (.int .i64 t512) := (blk_cell BK514.out 2).trans rfl
                          have hfz91_0 := blk_frozen BK514.out 0
                          have hfz91_1 := blk_frozen BK514.out 1
                          have hfz91_2 := blk_frozen BK514.out 2
                          go_wp2
                          go_meet
                          case rel => exact ⟨_, (false), (by first | rfl | (simp; done) | (simp [*]; done)), H', ⟨by first | omega | exact Nat.le_refl _⟩, ⟨by (with_reducible repeat (first | refine blk_drewN ?_ _ | refine blk_drew ?_ | refine blk_alloc ?_ _)); refine blk_far ?_ NB495_528.out _; (with_reducible repeat (first | refine blk_drewN ?_ _ | refine blk_drew ?_ | refine blk_alloc ?_ _)); refine blk_far ?_ NB495_528.out _; (with_reducible repeat (first | refine blk_drewN ?_ _ | refine blk_drew ?_ | refine blk_alloc ?_ _)); refine blk_far ?_ NB495_528.out _; (with_reducible repeat (first | refine blk_drewN ?_ _ | refine blk_drew ?_ | refine blk_alloc ?_ _)); exact BK495.out⟩, ⟨by (with_reducible repeat (first | refine blk_drewN ?_ _ | refine blk_drew ?_ | refine blk_alloc ?_ _)); refine blk_far ?_ NB514_528.out _; (with_reducible repeat (first | refine blk_drewN ?_ _ | refine blk_drew ?_ | refine blk_alloc ?_ _)); refine blk_far ?_ NB514_528.out _; (with_reducible repeat (first | refine blk_drewN ?_ _ | refine blk_drew ?_ | refine blk_alloc ?_ _)); refine blk_far ?_ NB514_528.out _; (with_reducible repeat (first | refine blk_drewN ?_ _ | refine blk_drew ?_ | refine blk_alloc ?_ _)); exact BK514.out⟩, ⟨by (with_reducible repeat (first | refine blk_drewN ?_ _ | refine blk_drew ?_ | refine blk_alloc ?_ _)); refine blk_put (cs := #[.int .i64 t524, .int .i64 t525, .int .i64 0]) ?_ 2 _ rfl; (with_reducible repeat (first | refine blk_drewN ?_ _ | refine blk_drew ?_ | refine blk_alloc ?_ _)); refine blk_put (cs := #[.int .i64 t524, .int .i64 0, .int .i64 0]) ?_ 1 _ rfl; (with_reducible repeat (first | refine blk_drewN ?_ _ | refine blk_drew ?_ | refine blk_alloc ?_ _)); refine blk_put (cs := #[.int .i64 0, .int .i64 0, .int .i64 0]) ?_ 0 _ rfl; (with_reducible repeat (first | refine blk_drewN ?_ _ | refine blk_drew ?_ | refine blk_alloc ?_ _)); exact BK528.out⟩, ⟨by repeat (first | (with_reducible first | exact HB.out | apply below_alloc | apply pw_below_drewN | apply below_drew1 | refine below_set ?_ GE495.out | refine below_set ?_ GE514.out | refine below_set ?_ GE528.out) | exact HB.out)⟩⟩
                      · rw [if_neg c82] at H
                        have c82b0 : (t527 == 3) = false := beq_eq_false_iff_ne.mpr c82
                        have c82b1 : (t527 != 3) = true := bne_iff_ne.mpr c82
                        have H' := Aside0.mk H
                        clear H
                        go_wp2
                        go_meet
                        case rel => exact ⟨_, (false), (by first | rfl | (simp; done) | (simp [*]; done)), H', ⟨by first | omega | exact Nat.le_refl _⟩, ⟨by (with_reducible repeat (first | refine blk_drewN ?_ _ | refine blk_drew ?_ | refine blk_alloc ?_ _)); refine blk_far ?_ NB495_528.out _; (with_reducible repeat (first | refine blk_drewN ?_ _ | refine blk_drew ?_ | refine blk_alloc ?_ _)); refine blk_far ?_ NB495_528.out _; (with_reducible repeat (first | refine blk_drewN ?_ _ | refine blk_drew ?_ | refine blk_alloc ?_ _)); refine blk_far ?_ NB495_528.out _; (with_reducible repeat (first | refine blk_drewN ?_ _ | refine blk_drew ?_ | refine blk_alloc ?_ _)); exact BK495.out⟩, ⟨by (with_reducible repeat (first | refine blk_drewN ?_ _ | refine blk_drew ?_ | refine blk_alloc ?_ _)); refine blk_far ?_ NB514_528.out _; (with_reducible repeat (first | refine blk_drewN ?_ _ | refine blk_drew ?_ | refine blk_alloc ?_ _)); refine blk_far ?_ NB514_528.out _; (with_reducible repeat (first | refine blk_drewN ?_ _ | refine blk_drew ?_ | refine blk_alloc ?_ _)); refine blk_far ?_ NB514_528.out _; (with_reducible repeat (first | refine blk_drewN ?_ _ | refine blk_drew ?_ | refine blk_alloc ?_ _)); exact BK514.out⟩, ⟨by (with_reducible repeat (first | refine blk_drewN ?_ _ | refine blk_drew ?_ | refine blk_alloc ?_ _)); refine blk_put (cs := #[.int .i64 t524, .int .i64 t525, .int .i64 0]) ?_ 2 _ rfl; (with_reducible repeat (first | refine blk_drewN ?_ _ | refine blk_drew ?_ | refine blk_alloc ?_ _)); refine blk_put (cs := #[.int .i64 t524, .int .i64 0, .int .i64 0]) ?_ 1 _ rfl; (with_reducible repeat (first | refine blk_drewN ?_ _ | refine blk_drew ?_ | refine blk_alloc ?_ _)); refine blk_put (cs := #[.int .i64 0, .int .i64 0, .int .i64 0]) ?_ 0 _ rfl; (with_reducible repeat (first | refine blk_drewN ?_ _ | refine blk_drew ?_ | refine blk_alloc ?_ _)); exact BK528.out⟩, ⟨by repeat (first | (with_reducible first | exact HB.out | apply below_alloc | apply pw_below_drewN | apply below_drew1 | refine below_set ?_ GE495.out | refine below_set ?_ GE514.out | refine below_set ?_ GE528.out) | exact HB.out)⟩⟩
                    · rw [if_neg c81] at H
                      have c81b0 : (t513 == 3) = false := beq_eq_false_iff_ne.mpr c81
                      have c81b1 : (t513 != 3) = true := bne_iff_ne.mpr c81
                      (first | rw [c81b0] | (simp only [i64_w, i32_w]; rw [c81b0]) | skip)
                      have H' := Aside0.mk H
                      clear H
                      go_wp2
                      go_meet
                      case rel => exact ⟨_, (false), (by first | rfl | (simp; done) | (simp [*]; done)), H', ⟨by first | omega | exact Nat.le_refl _⟩, ⟨by (with_reducible repeat (first | refine blk_drewN ?_ _ | refine blk_drew ?_ | refine blk_alloc ?_ _)); refine blk_far ?_ NB495_528.out _; (with_reducible repeat (first | refine blk_drewN ?_ _ | refine blk_drew ?_ | refine blk_alloc ?_ _)); refine blk_far ?_ NB495_528.out _; (with_reducible repeat (first | refine blk_drewN ?_ _ | refine blk_drew ?_ | refine blk_alloc ?_ _)); refine blk_far ?_ NB495_528.out _; (with_reducible repeat (first | refine blk_drewN ?_ _ | refine blk_drew ?_ | refine blk_alloc ?_ _)); exact BK495.out⟩, ⟨by (with_reducible repeat (first | refine blk_drewN ?_ _ | refine blk_drew ?_ | refine blk_alloc ?_ _)); refine blk_far ?_ NB514_528.out _; (with_reducible repeat (first | refine blk_drewN ?_ _ | refine blk_drew ?_ | refine blk_alloc ?_ _)); refine blk_far ?_ NB514_528.out _; (with_reducible repeat (first | refine blk_drewN ?_ _ | refine blk_drew ?_ | refine blk_alloc ?_ _)); refine blk_far ?_ NB514_528.out _; (with_reducible repeat (first | refine blk_drewN ?_ _ | refine blk_drew ?_ | refine blk_alloc ?_ _)); exact BK514.out⟩, ⟨by (with_reducible repeat (first | refine blk_drewN ?_ _ | refine blk_drew ?_ | refine blk_alloc ?_ _)); refine blk_put (cs := #[.int .i64 t524, .int .i64 t525, .int .i64 0]) ?_ 2 _ rfl; (with_reducible repeat (first | refine blk_drewN ?_ _ | refine blk_drew ?_ | refine blk_alloc ?_ _)); refine blk_put (cs := #[.int .i64 t524, .int .i64 0, .int .i64 0]) ?_ 1 _ rfl; (with_reducible repeat (first | refine blk_drewN ?_ _ | refine blk_drew ?_ | refine blk_alloc ?_ _)); refine blk_put (cs := #[.int .i64 0, .int .i64 0, .int .i64 0]) ?_ 0 _ rfl; (with_reducible repeat (first | refine blk_drewN ?_ _ | refine blk_drew ?_ | refine blk_alloc ?_ _)); exact BK528.out⟩, ⟨by repeat (first | (with_reducible first | exact HB.out | apply below_alloc | apply pw_below_drewN | apply below_drew1 | refine below_set ?_ GE495.out | refine below_set ?_ GE514.out | refine below_set ?_ GE528.out) | exact HB.out)⟩⟩
                  · replace c80 := Bool.eq_false_iff.mpr c80
                    subst c80
                    have H1 : (strakelaw05_OobLong.j2 k false) = some r := by rw [if_neg (show ¬ (false = true) by decide)] at H; exact H
                    clear H
                    have H := H1
                    clear H1
                    have H' := Aside0.mk H
                    clear H
                    go_wp2
                    go_meet
                    case rel => exact ⟨_, (false), (by first | rfl | (simp; done) | (simp [*]; done)), H', ⟨by first | omega | exact Nat.le_refl _⟩, ⟨by (with_reducible repeat (first | refine blk_drewN ?_ _ | refine blk_drew ?_ | refine blk_alloc ?_ _)); refine blk_far ?_ NB495_528.out _; (with_reducible repeat (first | refine blk_drewN ?_ _ | refine blk_drew ?_ | refine blk_alloc ?_ _)); refine blk_far ?_ NB495_528.out _; (with_reducible repeat (first | refine blk_drewN ?_ _ | refine blk_drew ?_ | refine blk_alloc ?_ _)); refine blk_far ?_ NB495_528.out _; (with_reducible repeat (first | refine blk_drewN ?_ _ | refine blk_drew ?_ | refine blk_alloc ?_ _)); exact BK495.out⟩, ⟨by (with_reducible repeat (first | refine blk_drewN ?_ _ | refine blk_drew ?_ | refine blk_alloc ?_ _)); refine blk_far ?_ NB514_528.out _; (with_reducible repeat (first | refine blk_drewN ?_ _ | refine blk_drew ?_ | refine blk_alloc ?_ _)); refine blk_far ?_ NB514_528.out _; (with_reducible repeat (first | refine blk_drewN ?_ _ | refine blk_drew ?_ | refine blk_alloc ?_ _)); refine blk_far ?_ NB514_528.out _; (with_reducible repeat (first | refine blk_drewN ?_ _ | refine blk_drew ?_ | refine blk_alloc ?_ _)); exact BK514.out⟩, ⟨by (with_reducible repeat (first | refine blk_drewN ?_ _ | refine blk_drew ?_ | refine blk_alloc ?_ _)); refine blk_put (cs := #[.int .i64 t524, .int .i64 t525, .int .i64 0]) ?_ 2 _ rfl; (with_reducible repeat (first | refine blk_drewN ?_ _ | refine blk_drew ?_ | refine blk_alloc ?_ _)); refine blk_put (cs := #[.int .i64 t524, .int .i64 0, .int .i64 0]) ?_ 1 _ rfl; (with_reducible repeat (first | refine blk_drewN ?_ _ | refine blk_drew ?_ | refine blk_alloc ?_ _)); refine blk_put (cs := #[.int .i64 0, .int .i64 0, .int .i64 0]) ?_ 0 _ rfl; (with_reducible repeat (first | refine blk_drewN ?_ _ | refine blk_drew ?_ | refine blk_alloc ?_ _)); exact BK528.out⟩, ⟨by repeat (first | (with_reducible first | exact HB.out | apply below_alloc | apply pw_below_drewN | apply below_drew1 | refine below_set ?_ GE495.out | refine below_set ?_ GE514.out | refine below_set ?_ GE528.out) | exact HB.out)⟩⟩
                case rest =>
                  clear HC55
                  try clear c1
                  try clear c2
                  try clear p2
                  try clear c3
                  try clear c4
                  try clear c5
                  try clear c5b0
                  try clear c5b1
                  try clear c6
                  try clear c7
                  try clear c8
                  try clear c9
                  try clear c9b0
                  try clear c9b1
                  try clear c10
                  try clear c11
                  try clear c13
                  try clear c14
                  try clear c16
                  try clear c16b0
                  try clear c16b1
                  try clear c16b2
                  try clear c22
                  try clear c23
                  try clear c30
                  try clear c39
                  try clear c40
                  try clear c42
                  try clear c43
                  try clear c43b0
                  try clear c43b1
                  try clear c43b2
                  try clear c44
                  try clear c45
                  try clear c47
                  try clear c50
                  try clear c51
                  try clear c53
                  try clear c68
                  try clear c77
                  try clear c78
                  try clear c80
                  try clear c81
                  try clear c81b0
                  try clear c81b1
                  try clear c82
                  try clear c82b0
                  try clear c82b1
                  try clear c83
                  try clear c83b0
                  try clear c83b1
                  try clear c83b2
                  try clear c84
                  try clear c85
                  try clear c87
                  try clear c89
                  try clear c90
                  try clear hcz20_0
                  try clear hcz20_1
                  try clear hcz20_2
                  try clear hcz31_0
                  try clear hcz31_1
                  try clear hcz31_2
                  try clear hcz41_0
                  try clear hcz41_1
                  try clear hcz41_2
                  try clear hcz46_0
                  try clear hcz46_1
                  try clear hcz46_2
                  try clear hcz48_0
                  try clear hcz48_1
                  try clear hcz48_2
                  try clear hcz49_0
                  try clear hcz49_1
                  try clear hcz49_2
                  try clear hcz52_0
                  try clear hcz52_1
                  try clear hcz52_2
                  try clear hcz54_0
                  try clear hcz54_1
                  try clear hcz54_2
                  try clear hcz58_0
                  try clear hcz58_1
                  try clear hcz58_2
                  try clear hcz69_0
                  try clear hcz69_1
                  try clear hcz69_2
                  try clear hcz79_0
                  try clear hcz79_1
                  try clear hcz79_2
                  try clear hcz86_0
                  try clear hcz86_1
                  try clear hcz86_2
                  try clear hcz88_0
                  try clear hcz88_1
                  try clear hcz88_2
                  try clear hcz91_0
                  try clear hcz91_1
                  try clear hcz91_2
                  try clear hfz20_0
                  try clear hfz20_1
                  try clear hfz20_2
                  try clear hfz31_0
                  try clear hfz31_1
                  try clear hfz31_2
                  try clear hfz41_0
                  try clear hfz41_1
                  try clear hfz41_2
                  try clear hfz46_0
                  try clear hfz46_1
                  try clear hfz46_2
                  try clear hfz48_0
                  try clear hfz48_1
                  try clear hfz48_2
                  try clear hfz49_0
                  try clear hfz49_1
                  try clear hfz49_2
                  try clear hfz52_0
                  try clear hfz52_1
                  try clear hfz52_2
                  try clear hfz54_0
                  try clear hfz54_1
                  try clear hfz54_2
                  try clear hfz58_0
                  try clear hfz58_1
                  try clear hfz58_2
                  try clear hfz69_0
                  try clear hfz69_1
                  try clear hfz69_2
                  try clear hfz79_0
                  try clear hfz79_1
                  try clear hfz79_2
                  try clear hfz86_0
                  try clear hfz86_1
                  try clear hfz86_2
                  try clear hfz88_0
                  try clear hfz88_1
                  try clear hfz88_2
                  try clear hfz91_0
                  try clear hfz91_1
                  try clear hfz91_2
                  try clear p2
                  obtain ⟨kq, x6_54, rfl, HA, HJ54, BK495, BK514, BK528, HB⟩ := hcut
                  cases kq with
                  | zero => exact absurd HA.out (by simp [strakelaw05_OobLong.j2])
                  | succ kj54 =>
                    have H := HA.out
                    clear HA
                    simp only [strakelaw05_OobLong.j2] at H
                    obtain rfl := Option.some.inj H
                    go_wp2
                    go_ret
                    exact ⟨by first | rfl | (simp [errW_none, errW_some] <;> rfl) | (simp [*, errW_none, errW_some] <;> rfl), by repeat (first | (with_reducible first | exact HB.out | apply below_alloc | apply pw_below_drewN | apply below_drew1 | refine below_set ?_ GE495.out | refine below_set ?_ GE514.out | refine below_set ?_ GE528.out) | exact HB.out)⟩
            · rw [if_neg c14] at H
              exact absurd H (by simp)
          · rw [if_neg c13] at H
            exact absurd H (by simp)
        · rw [if_neg c11] at H
          exact absurd H (by simp)
      · rw [if_neg c10] at H
        exact absurd H (by simp)
    · rw [if_neg c9] at H
      have c9b0 : (t500 == 0) = false := beq_eq_false_iff_ne.mpr c9
      have c9b1 : (t500 != 0) = true := bne_iff_ne.mpr c9
      have HC92 := Aside0.mk H
      clear H
      go_enter Try.func14, Try.ntmps14
      go_upto_region 6 with (first | ((with_reducible refine gate_dst (N := 3) rfl ?_); (try (refine gate_guard (by rfl) ?_; dsimp only)); refine box_event ?hg (N := 3) ?hd (cs := #[.int .i64 a0_0, .int .i64 a0_1, .int .i64 a0_2]) (t := 31) ?hr ?_; (case hd => rfl); (case hg => rfl); (case hr => first | (go_simp; done) | (go_simp; rfl)); intro gb495 hg w93 hbox hb; have n0_ := Aside0.mk (below_step (by repeat (first | (with_reducible first | exact HB.out | apply below_alloc | apply pw_below_drewN | apply below_drew1) | exact HB.out)) hb); have n1_ := Aside0.mk (hbox); have n2_ := Aside0.mk ((by rw [hg]; exact (below_size (by repeat (first | (with_reducible first | exact HB.out | apply below_alloc | apply pw_below_drewN | apply below_drew1) | exact HB.out))) : w.heap.size ≤ gb495)); have n3_ := Aside0.mk ((by rw [hg]; exact (below_size (by repeat (first | (with_reducible first | exact HB.out | apply below_alloc | apply pw_below_drewN | apply below_drew1) | exact HB.out))) : w.heap.size ≤ gb495)); clear HB; have HB := n0_; have BK495 := n1_; have GW495 := n2_; have GE495 := n3_; clear n0_ n1_ n2_ n3_; clear hb hbox hg) | ((with_reducible refine gate_callee (f := 22) rfl ?_); refine goesL_ (some 14) rfl rfl Try.func22 (by kernel_rfl) rfl #[] rfl (by (try simp only [List.map_toArray, List.map_cons, List.map_nil]); first | done | rfl | (simp only [List.length_drop, List.length_take]; rfl)) ?_; (with_reducible refine (strakelaw05_awake.calls k  t496 _ A4.out).mono ?_); rintro e w94 ⟨rfl, hb⟩; refine ⟨_, rfl, ?_⟩; have n0_ := Aside0.mk (blk_below (g := gb495) (o := .cells #[.int .i64 a0_0, .int .i64 a0_1, .int .i64 a0_2] 31 (0, 0)) (by (with_reducible repeat (first | refine blk_drewN ?_ _ | refine blk_drew ?_ | refine blk_alloc ?_ _)); exact BK495.out) hb); have n1_ := Aside0.mk (below_step (by repeat (first | (with_reducible first | exact HB.out | apply below_alloc | apply pw_below_drewN | apply below_drew1 | refine below_set ?_ GE495.out) | exact HB.out)) hb); clear BK495; clear HB; have BK495 := n0_; have HB := n1_; clear n0_ n1_; (try clear hb); (try clear hb2); (try clear hk); (try clear hi); have hcz95_0 : w94.cell? ⟨gb495, 0, none⟩ = some (.int .i64 a0_0) := (blk_cell BK495.out 0).trans rfl; have hcz95_1 : w94.cell? ⟨gb495, 1, none⟩ = some (.int .i64 a0_1) := (blk_cell BK495.out 1).trans rfl; have hcz95_2 : w94.cell? ⟨gb495, 2, none⟩ = some (.int .i64 a0_2) := (blk_cell BK495.out 2).trans rfl; have hfz95_0 := blk_frozen BK495.out 0; have hfz95_1 := blk_frozen BK495.out 1; have hfz95_2 := blk_frozen BK495.out 2) | ((with_reducible refine gate_callee (f := 23) rfl ?_); refine goesL_ (some 22) rfl rfl Try.func23 (by kernel_rfl) rfl #[.agg #[.int .i64 a0_0, .int .i64 a0_1, .int .i64 a0_2], .slice A1 l1.length c1] rfl (by (try simp only [List.map_toArray, List.map_cons, List.map_nil]); first | done | rfl | (simp only [List.length_drop, List.length_take]; rfl)) ?_; (with_reducible refine (oob_Pack.calls k a0_0 a0_1 a0_2 _ _ l1 t497 t500 _ ?side1 ?side2 A8.out).mono ?_); (case side1 => repeat (first | exact (Kd.C_below HR1.out HB.out) | (with_reducible refine Kd.C_alloc ?_ _) | (with_reducible refine Kd.C_drewN ?_ _) | (with_reducible refine Kd.C_drew ?_))); (case side2 => exact HC1.out); rintro e w96 ⟨v498, rfl, ho0, hb⟩; refine ⟨_, rfl, ?_⟩; have n0_ := Aside0.mk (Kd.R_lower ho0 (below_size (by repeat (first | (with_reducible first | exact HB.out | apply below_alloc | apply pw_below_drewN | apply below_drew1 | refine below_set ?_ GE495.out) | exact HB.out)))); have n1_ := Aside0.mk (blk_below (g := gb495) (o := .cells #[.int .i64 a0_0, .int .i64 a0_1, .int .i64 a0_2] 31 (0, 0)) (by (with_reducible repeat (first | refine blk_drewN ?_ _ | refine blk_drew ?_ | refine blk_alloc ?_ _)); exact BK495.out) hb); have n2_ := Aside0.mk (below_step (by repeat (first | (with_reducible first | exact HB.out | apply below_alloc | apply pw_below_drewN | apply below_drew1 | refine below_set ?_ GE495.out) | exact HB.out)) hb); clear BK495; clear HB; have HO499 := n0_; have BK495 := n1_; have HB := n2_; clear n0_ n1_ n2_; (try clear hb); (try clear hb2); (try clear hk); (try clear hi); (try clear ho0)))
      (try simp only [Act.put, List.setIfInBounds_toArray, List.set_cons_zero, List.set_cons_succ])
      go_cut [6] (fun v6 wc => ∃ (kq : Nat) (x6_91 : Bool), v6 = .bool x6_91 ∧ Aside0 (strakelaw05_OobLong.j0 kq x6_91 = some r) ∧ Aside0 (kq ≤ k) ∧ Aside0 (wc.heap[gb495]? = some (.cells #[.int .i64 a0_0, .int .i64 a0_1, .int .i64 a0_2] 31 (0, 0))) ∧ Aside0 (Below w.heap.size w wc))
      case first =>
        have H := HC92.out
        clear HC92
        by_cases c97 : t496 = true
        · subst c97
          have H1 : (if t500 = 1 then (strakelaw05_OobLong.j0 k ((t497.length : Int) == 0)) else (strakelaw05_OobLong.j0 k false)) = some r := by rw [if_pos rfl] at H; exact H
          clear H
          have H := H1
          clear H1
          by_cases c98 : t500 = 1
          · rw [if_pos c98] at H
            have c98b0 : (t500 == 1) = true := beq_iff_eq.mpr c98
            have c98b1 : (t500 != 1) = false := bne_eq_false_iff_eq.mpr c98
            clear c98
            (first | rw [c98b0] | (simp only [i64_w, i32_w]; rw [c98b0]) | skip)
            have H' := Aside0.mk H
            clear H
            obtain ⟨Ao99, co99, eo99⟩ := Kd.R_slice HO499.out
            subst eo99
            go_wp2
            go_meet
            case rel => exact ⟨_, (((t497.length : Int) == 0)), (by first | rfl | (simp; done) | (simp [*]; done)), H', ⟨by first | omega | exact Nat.le_refl _⟩, ⟨by (with_reducible repeat (first | refine blk_drewN ?_ _ | refine blk_drew ?_ | refine blk_alloc ?_ _)); exact BK495.out⟩, ⟨by repeat (first | (with_reducible first | exact HB.out | apply below_alloc | apply pw_below_drewN | apply below_drew1 | refine below_set ?_ GE495.out) | exact HB.out)⟩⟩
          · rw [if_neg c98] at H
            have c98b0 : (t500 == 1) = false := beq_eq_false_iff_ne.mpr c98
            have c98b1 : (t500 != 1) = true := bne_iff_ne.mpr c98
            (first | rw [c98b0] | (simp only [i64_w, i32_w]; rw [c98b0]) | skip)
            have H' := Aside0.mk H
            clear H
            go_wp2
            go_meet
            case rel => exact ⟨_, (false), (by first | rfl | (simp; done) | (simp [*]; done)), H', ⟨by first | omega | exact Nat.le_refl _⟩, ⟨by (with_reducible repeat (first | refine blk_drewN ?_ _ | refine blk_drew ?_ | refine blk_alloc ?_ _)); exact BK495.out⟩, ⟨by repeat (first | (with_reducible first | exact HB.out | apply below_alloc | apply pw_below_drewN | apply below_drew1 | refine below_set ?_ GE495.out) | exact HB.out)⟩⟩
        · replace c97 := Bool.eq_false_iff.mpr c97
          subst c97
          have H1 : (strakelaw05_OobLong.j0 k false) = some r := by rw [if_neg (show ¬ (false = true) by decide)] at H; exact H
          clear H
          have H := H1
          clear H1
          have H' := Aside0.mk H
          clear H
          go_wp2
          go_meet
          case rel => exact ⟨_, (false), (by first | rfl | (simp; done) | (simp [*]; done)), H', ⟨by first | omega | exact Nat.le_refl _⟩, ⟨by (with_reducible repeat (first | refine blk_drewN ?_ _ | refine blk_drew ?_ | refine blk_alloc ?_ _)); exact BK495.out⟩, ⟨by repeat (first | (with_reducible first | exact HB.out | apply below_alloc | apply pw_below_drewN | apply below_drew1 | refine below_set ?_ GE495.out) | exact HB.out)⟩⟩
      case rest =>
        clear HC92
        try clear c1
        try clear c2
        try clear p2
        try clear c3
        try clear c4
        try clear c5
        try clear c5b0
        try clear c5b1
        try clear c6
        try clear c7
        try clear c8
        try clear c9
        try clear c9b0
        try clear c9b1
        try clear c10
        try clear c11
        try clear c13
        try clear c14
        try clear c16
        try clear c16b0
        try clear c16b1
        try clear c16b2
        try clear c22
        try clear c23
        try clear c30
        try clear c39
        try clear c40
        try clear c42
        try clear c43
        try clear c43b0
        try clear c43b1
        try clear c43b2
        try clear c44
        try clear c45
        try clear c47
        try clear c50
        try clear c51
        try clear c53
        try clear c68
        try clear c77
        try clear c78
        try clear c80
        try clear c81
        try clear c81b0
        try clear c81b1
        try clear c82
        try clear c82b0
        try clear c82b1
        try clear c83
        try clear c83b0
        try clear c83b1
        try clear c83b2
        try clear c84
        try clear c85
        try clear c87
        try clear c89
        try clear c90
        try clear c97
        try clear c98
        try clear c98b0
        try clear c98b1
        try clear hcz20_0
        try clear hcz20_1
        try clear hcz20_2
        try clear hcz31_0
        try clear hcz31_1
        try clear hcz31_2
        try clear hcz41_0
        try clear hcz41_1
        try clear hcz41_2
        try clear hcz46_0
        try clear hcz46_1
        try clear hcz46_2
        try clear hcz48_0
        try clear hcz48_1
        try clear hcz48_2
        try clear hcz49_0
        try clear hcz49_1
        try clear hcz49_2
        try clear hcz52_0
        try clear hcz52_1
        try clear hcz52_2
        try clear hcz54_0
        try clear hcz54_1
        try clear hcz54_2
        try clear hcz58_0
        try clear hcz58_1
        try clear hcz58_2
        try clear hcz69_0
        try clear hcz69_1
        try clear hcz69_2
        try clear hcz79_0
        try clear hcz79_1
        try clear hcz79_2
        try clear hcz86_0
        try clear hcz86_1
        try clear hcz86_2
        try clear hcz88_0
        try clear hcz88_1
        try clear hcz88_2
        try clear hcz91_0
        try clear hcz91_1
        try clear hcz91_2
        try clear hcz95_0
        try clear hcz95_1
        try clear hcz95_2
        try clear hfz20_0
        try clear hfz20_1
        try clear hfz20_2
        try clear hfz31_0
        try clear hfz31_1
        try clear hfz31_2
        try clear hfz41_0
        try clear hfz41_1
        try clear hfz41_2
        try clear hfz46_0
        try clear hfz46_1
        try clear hfz46_2
        try clear hfz48_0
        try clear hfz48_1
        try clear hfz48_2
        try clear hfz49_0
        try clear hfz49_1
        try clear hfz49_2
        try clear hfz52_0
        try clear hfz52_1
        try clear hfz52_2
        try clear hfz54_0
        try clear hfz54_1
        try clear hfz54_2
        try clear hfz58_0
        try clear hfz58_1
        try clear hfz58_2
        try clear hfz69_0
        try clear hfz69_1
        try clear hfz69_2
        try clear hfz79_0
        try clear hfz79_1
        try clear hfz79_2
        try clear hfz86_0
        try clear hfz86_1
        try clear hfz86_2
        try clear hfz88_0
        try clear hfz88_1
        try clear hfz88_2
        try clear hfz91_0
        try clear hfz91_1
        try clear hfz91_2
        try clear hfz95_0
        try clear hfz95_1
        try clear hfz95_2
        try clear p2
        obtain ⟨kq, x6_91, rfl, HA, HJ91, BK495, HB⟩ := hcut
        cases kq with
        | zero => exact absurd HA.out (by simp [strakelaw05_OobLong.j0])
        | succ kj91 =>
          have H := HA.out
          clear HA
          simp only [strakelaw05_OobLong.j0] at H
          obtain rfl := Option.some.inj H
          go_wp2
          go_ret
          exact ⟨by first | rfl | (simp [errW_none, errW_some] <;> rfl) | (simp [*, errW_none, errW_some] <;> rfl), by repeat (first | (with_reducible first | exact HB.out | apply below_alloc | apply pw_below_drewN | apply below_drew1 | refine below_set ?_ GE495.out) | exact HB.out)⟩

/-- THE ONE PURE STATEMENT of strakelaw05_OobLong: yours. -/
def strakelaw05_OobLong.Pure : Prop := ∀ (a0_0 : Int) (a0_1 : Int) (a0_2 : Int) (l1 : List Int) (l2 : List Int), (Lit.int .i64 a0_0).wf = true → (Lit.int .i64 a0_1).wf = true → (Lit.int .i64 a0_2).wf = true → l1.length ≤ maxLen → l1.length * 1 ≤ 140737488351232 → (∀ x ∈ l1, (Lit.int .u8 x).wf = true) → l2.length ≤ maxLen → l2.length * 1 ≤ 140737488351232 → (∀ x ∈ l2, (Lit.int .u8 x).wf = true) → ∃ k, strakelaw05_OobLong.f k a0_0 a0_1 a0_2 l1 l2 = some true
theorem strakelaw05_OobLong.walk (P : strakelaw05_OobLong.Pure) (a0_0 : Int) (a0_1 : Int) (a0_2 : Int) (a1 : Option Addr) (len1 cap1 : Nat) (z1 : List Int) (a2 : Option Addr) (len2 cap2 : Nat) (z2 : List Int) (w : World) (w0_0 : (Lit.int .i64 a0_0).wf = true) (w0_1 : (Lit.int .i64 a0_1).wf = true) (w0_2 : (Lit.int .i64 a0_2).wf = true) (w1 : (a1 = none ∧ len1 = 0 ∧ cap1 = 0 ∧ z1 = []) ∨ ∃ x, a1 = some x ∧ len1 ≤ cap1 ∧ cap1 ≤ maxLen ∧ z1.length = cap1 ∧ (∀ i, i < z1.length → w.cell? (x.add i) = some (.int .u8 (z1.getD i 0))) ∧ ∀ n ∈ z1, (Lit.int .u8 n).wf = true) (y1 : len1 * 1 ≤ 140737488351232) (w2 : (a2 = none ∧ len2 = 0 ∧ cap2 = 0 ∧ z2 = []) ∨ ∃ x, a2 = some x ∧ len2 ≤ cap2 ∧ cap2 ≤ maxLen ∧ z2.length = cap2 ∧ (∀ i, i < z2.length → w.cell? (x.add i) = some (.int .u8 (z2.getD i 0))) ∧ ∀ n ∈ z2, (Lit.int .u8 n).wf = true) (y2 : len2 * 1 ≤ 140737488351232) :
    Calls Try.prog 14 #[.agg #[.int .i64 a0_0, .int .i64 a0_1, .int .i64 a0_2], .slice a1 len1 cap1, .slice a2 len2 cap2] w fun e w' => e = .returned (.bool true) ∧ Below w.heap.size w w' := by
  obtain ⟨l1, rfl, hr1, hm1, hw1, hc1⟩ := ReadsInt.ofRowC w1
  obtain ⟨l2, rfl, hr2, hm2, hw2, hc2⟩ := ReadsInt.ofRowC w2
  obtain ⟨k, h⟩ := P a0_0 a0_1 a0_2 l1 l2 w0_0 w0_1 w0_2 hm1 y1 hw1 hm2 y2 hw2
  refine (strakelaw05_OobLong.calls k a0_0 a0_1 a0_2 _ _ l1 _ _ l2 true w (Kd.C_of_reads (d := (0 : Int)) (h1 := fun _ => rfl) hr1) hc1 (Kd.C_of_reads (d := (0 : Int)) (h1 := fun _ => rfl) hr2) hc2 h).mono ?_
  rintro e w' ⟨rfl, hd⟩
  exact ⟨rfl, hd⟩

end Go.Proofs.Ytjjohdeknahkmaa.X
