-- laid by wip/tools/xprint.py (our own changes over the printer)
import Derived.Test.YtlheknapgonakaaX0
import Derived.Test.YtlheknapgonakaaX6
import Derived.Test.YtlheknapgonakaaX7
import Derived.Test.YtlheknapgonakaaX33
import Derived.Test.YtlheknapgonakaaX40
namespace Go.Proofs.Ytlheknapgonakaa.X
open Go.RowKit Go.Proofs.YtlheknapgonakaaW.PrintWords Go.Proofs.YtlheknapgonakaaW.PrintLast Go.Proofs.YtlheknapgonakaaW.PrintMore
attribute [local go_sem] max2_int min2_int max_two min_two max_three min_three max_four min_four   -- for this text's walks alone
set_option linter.unusedVariables false
set_option linter.unusedSimpArgs false

/-! ### strakelaw18_ReplayParts: function 7 -/
mutual
def strakelaw18_ReplayParts.l0 : Nat → List (S27) → Bool → List (S33) → List Int → Int → Int → Option (Bool)
  | 0, _, _, _, _, _, _ => none
  | k + 1, x0, x5, x7, x9, x10, x11 => if x11 < (x7.length : Int) then (if 0 ≤ x11 then (if ((rd_T33 x7 x11).f0) ≥ 0 then (strakelaw18_ReplayParts.l0 k x0 x5 x7 x9 (wrap64 (x10 + 1)) (wrap64 (x11 + 1))) else (strakelaw18_ReplayParts.l0 k x0 x5 x7 x9 x10 (wrap64 (x11 + 1)))) else (none)) else (strakelaw18_ReplayParts.l1 k x0 x5 x7 x9 x10 0)
def strakelaw18_ReplayParts.l1 : Nat → List (S27) → Bool → List (S33) → List Int → Int → Int → Option (Bool)
  | 0, _, _, _, _, _, _ => none
  | k + 1, x0, x5, x7, x9, x10, x12 => if x12 < (x0.length : Int) then (if 0 ≤ x12 then (if ((rd_T27 x0 x12).f1.f0) < 1 then (strakelaw18_ReplayParts.j2 k x0 x5 x7 x9 x10 x12 true ((rd_T27 x0 x12).f0) ((rd_T27 x0 x12).f1.f0) ((rd_T27 x0 x12).f1.f1) ((rd_T27 x0 x12).f1.f2) ((rd_T27 x0 x12).f2)) else (if ((rd_T27 x0 x12).f1.f0) > 2 then (strakelaw18_ReplayParts.j2 k x0 x5 x7 x9 x10 x12 true ((rd_T27 x0 x12).f0) ((rd_T27 x0 x12).f1.f0) ((rd_T27 x0 x12).f1.f1) ((rd_T27 x0 x12).f1.f2) ((rd_T27 x0 x12).f2)) else (if ((rd_T27 x0 x12).f1.f1) < 0 then (strakelaw18_ReplayParts.j2 k x0 x5 x7 x9 x10 x12 true ((rd_T27 x0 x12).f0) ((rd_T27 x0 x12).f1.f0) ((rd_T27 x0 x12).f1.f1) ((rd_T27 x0 x12).f1.f2) ((rd_T27 x0 x12).f2)) else (if ((rd_T27 x0 x12).f1.f1) ≥ (x7.length : Int) then (strakelaw18_ReplayParts.j2 k x0 x5 x7 x9 x10 x12 true ((rd_T27 x0 x12).f0) ((rd_T27 x0 x12).f1.f0) ((rd_T27 x0 x12).f1.f1) ((rd_T27 x0 x12).f1.f2) ((rd_T27 x0 x12).f2)) else (if ((rd_T27 x0 x12).f1.f2) < 1 then (strakelaw18_ReplayParts.j2 k x0 x5 x7 x9 x10 x12 true ((rd_T27 x0 x12).f0) ((rd_T27 x0 x12).f1.f0) ((rd_T27 x0 x12).f1.f1) ((rd_T27 x0 x12).f1.f2) ((rd_T27 x0 x12).f2)) else (if ((rd_T27 x0 x12).f1.f2) > 1125899906842624 then (strakelaw18_ReplayParts.j2 k x0 x5 x7 x9 x10 x12 true ((rd_T27 x0 x12).f0) ((rd_T27 x0 x12).f1.f0) ((rd_T27 x0 x12).f1.f1) ((rd_T27 x0 x12).f1.f2) ((rd_T27 x0 x12).f2)) else (strakelaw18_ReplayParts.j2 k x0 x5 x7 x9 x10 x12 (decide (((rd_T27 x0 x12).f0) < 0)) ((rd_T27 x0 x12).f0) ((rd_T27 x0 x12).f1.f0) ((rd_T27 x0 x12).f1.f1) ((rd_T27 x0 x12).f1.f2) ((rd_T27 x0 x12).f2)))))))) else (none)) else (if x5 = true then (some ((wrap64 (x10 + (x9.length : Int))) == 0)) else (some false))
def strakelaw18_ReplayParts.j2 : Nat → List (S27) → Bool → List (S33) → List Int → Int → Int → Bool → Int → Int → Int → Int → OSl → Option (Bool)
  | 0, _, _, _, _, _, _, _, _, _, _, _, _ => none
  | k + 1, x0, x5, x7, x9, x10, x12, x100, x388000, x388001, x388002, x388003, x388004 => if x100 = true then (strakelaw18_ReplayParts.l1 k x0 x5 x7 x9 x10 (wrap64 (x12 + 1))) else (if 0 ≤ x388002 then (if x388002 < (x7.length : Int) then (strakelaw18_ReplayParts.l2 k x0 x5 x7 x9 (wrap64 (x10 - 1)) x12 (((rd_T33 x7 x388002).f0) == x388000) false 0 x388000 x388001 x388002 x388003 x388004) else (none)) else (none))
def strakelaw18_ReplayParts.l2 : Nat → List (S27) → Bool → List (S33) → List Int → Int → Int → Bool → Bool → Int → Int → Int → Int → Int → OSl → Option (Bool)
  | 0, _, _, _, _, _, _, _, _, _, _, _, _, _, _ => none
  | k + 1, x0, x5, x7, x9, x10, x12, x14, x15, x16, x388000, x388001, x388002, x388003, x388004 => if x16 < (x9.length : Int) then (if x15 = true then (strakelaw18_ReplayParts.l2 k x0 x5 x7 x9 x10 x12 x14 true (wrap64 (x16 + 1)) x388000 x388001 x388002 x388003 x388004) else (if 0 ≤ x16 then (strakelaw18_ReplayParts.l2 k x0 x5 x7 x9 x10 x12 x14 ((rd x9 x16) == x388000) (wrap64 (x16 + 1)) x388000 x388001 x388002 x388003 x388004) else (none))) else (if (x14 == x15) = true then (some false) else (strakelaw18_ReplayParts.l1 k x0 x5 x7 x9 x10 (wrap64 (x12 + 1))))
end
def strakelaw18_ReplayParts.f (k : Nat) (l0 : List (S27)) (a1 : Int) : Option (Bool) := (strakelaw18_awake.f).bind fun t376 => (if (l0.length : Int) > 200 then (some t376) else ((strakelaw18_apart.f k l0).bind fun t377 => (if t377 = true then ((replay_Newest.f l0 a1).bind fun bt378 => ((replay_Stale.f l0 a1).bind fun t382 => (strakelaw18_ReplayParts.l0 k l0 t376 bt378.1 t382 0 0))) else (some t376))))
theorem strakelaw18_ReplayParts.mono_l : ∀ k, (∀ y0 y1 y2 y3 y4 y5, LeO (strakelaw18_ReplayParts.l0 k y0 y1 y2 y3 y4 y5) (strakelaw18_ReplayParts.l0 (k + 1) y0 y1 y2 y3 y4 y5)) ∧ (∀ y0 y1 y2 y3 y4 y5, LeO (strakelaw18_ReplayParts.l1 k y0 y1 y2 y3 y4 y5) (strakelaw18_ReplayParts.l1 (k + 1) y0 y1 y2 y3 y4 y5)) ∧ (∀ y0 y1 y2 y3 y4 y5 y6 y7 y8 y9 y10 y11, LeO (strakelaw18_ReplayParts.j2 k y0 y1 y2 y3 y4 y5 y6 y7 y8 y9 y10 y11) (strakelaw18_ReplayParts.j2 (k + 1) y0 y1 y2 y3 y4 y5 y6 y7 y8 y9 y10 y11)) ∧ (∀ y0 y1 y2 y3 y4 y5 y6 y7 y8 y9 y10 y11 y12 y13, LeO (strakelaw18_ReplayParts.l2 k y0 y1 y2 y3 y4 y5 y6 y7 y8 y9 y10 y11 y12 y13) (strakelaw18_ReplayParts.l2 (k + 1) y0 y1 y2 y3 y4 y5 y6 y7 y8 y9 y10 y11 y12 y13))
  | 0 => ⟨fun _ _ _ _ _ _ r h => by simp [strakelaw18_ReplayParts.l0] at h, fun _ _ _ _ _ _ r h => by simp [strakelaw18_ReplayParts.l1] at h, fun _ _ _ _ _ _ _ _ _ _ _ _ r h => by simp [strakelaw18_ReplayParts.j2] at h, fun _ _ _ _ _ _ _ _ _ _ _ _ _ _ r h => by simp [strakelaw18_ReplayParts.l2] at h⟩
  | k + 1 => by
    obtain ⟨ih0, ih1, ih2, ih3⟩ := strakelaw18_ReplayParts.mono_l k
    refine ⟨?_, ?_, ?_, ?_⟩
    · intro y0 y1 y2 y3 y4 y5
      unfold strakelaw18_ReplayParts.l0
      repeat' first
      | (with_reducible exact ih0 _ _ _ _ _ _)
      | (with_reducible exact ih1 _ _ _ _ _ _)
      | (with_reducible exact ih2 _ _ _ _ _ _ _ _ _ _ _ _)
      | (with_reducible exact ih3 _ _ _ _ _ _ _ _ _ _ _ _ _ _)
      | (with_reducible exact strakelaw18_apart.mono _ _)
      | (with_reducible exact LeO.refl _)
      | (with_reducible exact LeO.none _)
      | (with_reducible refine LeO.ite ?_ ?_)
      | (with_reducible refine LeO.bind ?_ (fun _ => ?_))
      | exact ih0 _ _ _ _ _ _
      | exact ih1 _ _ _ _ _ _
      | exact ih2 _ _ _ _ _ _ _ _ _ _ _ _
      | exact ih3 _ _ _ _ _ _ _ _ _ _ _ _ _ _
      | exact strakelaw18_apart.mono _ _
      | exact LeO.none _
      | refine LeO.ite ?_ ?_
      | refine LeO.bind ?_ (fun _ => ?_)
    · intro y0 y1 y2 y3 y4 y5
      unfold strakelaw18_ReplayParts.l1
      repeat' first
      | (with_reducible exact ih0 _ _ _ _ _ _)
      | (with_reducible exact ih1 _ _ _ _ _ _)
      | (with_reducible exact ih2 _ _ _ _ _ _ _ _ _ _ _ _)
      | (with_reducible exact ih3 _ _ _ _ _ _ _ _ _ _ _ _ _ _)
      | (with_reducible exact strakelaw18_apart.mono _ _)
      | (with_reducible exact LeO.refl _)
      | (with_reducible exact LeO.none _)
      | (with_reducible refine LeO.ite ?_ ?_)
      | (with_reducible refine LeO.bind ?_ (fun _ => ?_))
      | exact ih0 _ _ _ _ _ _
      | exact ih1 _ _ _ _ _ _
      | exact ih2 _ _ _ _ _ _ _ _ _ _ _ _
      | exact ih3 _ _ _ _ _ _ _ _ _ _ _ _ _ _
      | exact strakelaw18_apart.mono _ _
      | exact LeO.none _
      | refine LeO.ite ?_ ?_
      | refine LeO.bind ?_ (fun _ => ?_)
    · intro y0 y1 y2 y3 y4 y5 y6 y7 y8 y9 y10 y11
      unfold strakelaw18_ReplayParts.j2
      repeat' first
      | (with_reducible exact ih0 _ _ _ _ _ _)
      | (with_reducible exact ih1 _ _ _ _ _ _)
      | (with_reducible exact ih2 _ _ _ _ _ _ _ _ _ _ _ _)
      | (with_reducible exact ih3 _ _ _ _ _ _ _ _ _ _ _ _ _ _)
      | (with_reducible exact strakelaw18_apart.mono _ _)
      | (with_reducible exact LeO.refl _)
      | (with_reducible exact LeO.none _)
      | (with_reducible refine LeO.ite ?_ ?_)
      | (with_reducible refine LeO.bind ?_ (fun _ => ?_))
      | exact ih0 _ _ _ _ _ _
      | exact ih1 _ _ _ _ _ _
      | exact ih2 _ _ _ _ _ _ _ _ _ _ _ _
      | exact ih3 _ _ _ _ _ _ _ _ _ _ _ _ _ _
      | exact strakelaw18_apart.mono _ _
      | exact LeO.none _
      | refine LeO.ite ?_ ?_
      | refine LeO.bind ?_ (fun _ => ?_)
    · intro y0 y1 y2 y3 y4 y5 y6 y7 y8 y9 y10 y11 y12 y13
      unfold strakelaw18_ReplayParts.l2
      repeat' first
      | (with_reducible exact ih0 _ _ _ _ _ _)
      | (with_reducible exact ih1 _ _ _ _ _ _)
      | (with_reducible exact ih2 _ _ _ _ _ _ _ _ _ _ _ _)
      | (with_reducible exact ih3 _ _ _ _ _ _ _ _ _ _ _ _ _ _)
      | (with_reducible exact strakelaw18_apart.mono _ _)
      | (with_reducible exact LeO.refl _)
      | (with_reducible exact LeO.none _)
      | (with_reducible refine LeO.ite ?_ ?_)
      | (with_reducible refine LeO.bind ?_ (fun _ => ?_))
      | exact ih0 _ _ _ _ _ _
      | exact ih1 _ _ _ _ _ _
      | exact ih2 _ _ _ _ _ _ _ _ _ _ _ _
      | exact ih3 _ _ _ _ _ _ _ _ _ _ _ _ _ _
      | exact strakelaw18_apart.mono _ _
      | exact LeO.none _
      | refine LeO.ite ?_ ?_
      | refine LeO.bind ?_ (fun _ => ?_)
theorem strakelaw18_ReplayParts.mono : ∀ a0 a1 k, LeO (strakelaw18_ReplayParts.f k a0 a1) (strakelaw18_ReplayParts.f (k + 1) a0 a1) := by
  intro a0 a1 k
  obtain ⟨ih0, ih1, ih2, ih3⟩ := strakelaw18_ReplayParts.mono_l k
  unfold strakelaw18_ReplayParts.f
  repeat' first
      | (with_reducible exact ih0 _ _ _ _ _ _)
      | (with_reducible exact ih1 _ _ _ _ _ _)
      | (with_reducible exact ih2 _ _ _ _ _ _ _ _ _ _ _ _)
      | (with_reducible exact ih3 _ _ _ _ _ _ _ _ _ _ _ _ _ _)
      | (with_reducible exact strakelaw18_apart.mono _ _)
      | (with_reducible exact LeO.refl _)
      | (with_reducible exact LeO.none _)
      | (with_reducible refine LeO.ite ?_ ?_)
      | (with_reducible refine LeO.bind ?_ (fun _ => ?_))
      | exact ih0 _ _ _ _ _ _
      | exact ih1 _ _ _ _ _ _
      | exact ih2 _ _ _ _ _ _ _ _ _ _ _ _
      | exact ih3 _ _ _ _ _ _ _ _ _ _ _ _ _ _
      | exact strakelaw18_apart.mono _ _
      | exact LeO.none _
      | refine LeO.ite ?_ ?_
      | refine LeO.bind ?_ (fun _ => ?_)
set_option maxHeartbeats 8000000 in
set_option maxRecDepth 100000 in
theorem strakelaw18_ReplayParts.calls (k : Nat) (A0 : Option Addr) (c0 : Nat) (l0 : List (S27)) (a1 : Int) (r : Bool) (w : World) (hr0 : Kd.C k27 w A0 l0.length l0) (hc0 : l0.length ≤ c0) (h : strakelaw18_ReplayParts.f k l0 a1 = some r) :
    Calls Try.prog 7 #[.slice A0 l0.length c0, .int .i64 a1] w fun e w' => e = .returned (.bool r) ∧ Below w.heap.size w w' := by
  have hu27 := Try.underlying27
  have HR0 := Aside0.mk hr0
  have HC0 := Aside0.mk hc0
  clear hr0 hc0
  have HB := Aside0.mk (Below.refl w.heap.size w)
  have H : ((strakelaw18_awake.f).bind fun t376 => (if (l0.length : Int) > 200 then (some t376) else ((strakelaw18_apart.f k l0).bind fun t377 => (if t377 = true then ((replay_Newest.f l0 a1).bind fun bt378 => ((replay_Stale.f l0 a1).bind fun t382 => (strakelaw18_ReplayParts.l0 k l0 t376 bt378.1 t382 0 0))) else (some t376))))) = some r := h
  clear h
  replace H := Option.bind_eq_some_iff.mp H
  obtain ⟨t376, A30, H⟩ := H
  replace H : (if (l0.length : Int) > 200 then (some t376) else ((strakelaw18_apart.f k l0).bind fun t377 => (if t377 = true then ((replay_Newest.f l0 a1).bind fun bt378 => ((replay_Stale.f l0 a1).bind fun t382 => (strakelaw18_ReplayParts.l0 k l0 t376 bt378.1 t382 0 0))) else (some t376)))) = some r := H
  have A3 := Aside0.mk A30
  clear A30
  by_cases c4 : (l0.length : Int) > 200
  · rw [if_pos c4] at H
    have c4b0 : decide (200 < (l0.length : Int)) = true := decide_eq_true c4
    have c4b1 : decide (200 < l0.length) = true := decide_eq_true (by omega)
    clear c4
    obtain rfl := Option.some.inj H
    go_enter Try.func7, Try.ntmps7
    go_wp2_with (first | (go_at_call 8; (with_reducible refine (strakelaw18_awake.calls  t376 _ A3.out).mono ?_); rintro e w5 ⟨rfl, hb⟩; have n0_ := Aside0.mk (below_step (by repeat (first | (with_reducible first | exact HB.out | apply below_alloc | apply pw_below_drewN | apply below_drew1) | exact HB.out)) hb); clear HB; have HB := n0_; clear n0_; (try clear hb); (try clear hb2); (try clear hk); (try clear hi)))
    repeat (go_quiet (first | (go_at_call 8; (with_reducible refine (strakelaw18_awake.calls  t376 _ A3.out).mono ?_); rintro e w5 ⟨rfl, hb⟩; have n0_ := Aside0.mk (below_step (by repeat (first | (with_reducible first | exact HB.out | apply below_alloc | apply pw_below_drewN | apply below_drew1) | exact HB.out)) hb); clear HB; have HB := n0_; clear n0_; (try clear hb); (try clear hb2); (try clear hk); (try clear hi))); try go_wp2_with (first | (go_at_call 8; (with_reducible refine (strakelaw18_awake.calls  t376 _ A3.out).mono ?_); rintro e w5 ⟨rfl, hb⟩; have n0_ := Aside0.mk (below_step (by repeat (first | (with_reducible first | exact HB.out | apply below_alloc | apply pw_below_drewN | apply below_drew1) | exact HB.out)) hb); clear HB; have HB := n0_; clear n0_; (try clear hb); (try clear hb2); (try clear hk); (try clear hi))))
    go_ret
    exact ⟨by first | rfl | (simp [errW_none, errW_some] <;> rfl) | (simp [*, errW_none, errW_some] <;> rfl), by repeat (first | (with_reducible first | exact HB.out | apply below_alloc | apply pw_below_drewN | apply below_drew1) | exact HB.out)⟩
  · rw [if_neg c4] at H
    have c4b0 : decide (200 < (l0.length : Int)) = false := decide_eq_false c4
    have c4b1 : decide (200 < l0.length) = false := decide_eq_false (by omega)
    clear c4
    replace H := Option.bind_eq_some_iff.mp H
    obtain ⟨t377, A60, H⟩ := H
    replace H : (if t377 = true then ((replay_Newest.f l0 a1).bind fun bt378 => ((replay_Stale.f l0 a1).bind fun t382 => (strakelaw18_ReplayParts.l0 k l0 t376 bt378.1 t382 0 0))) else (some t376)) = some r := H
    have A6 := Aside0.mk A60
    clear A60
    by_cases c7 : t377 = true
    · subst c7
      have H1 : ((replay_Newest.f l0 a1).bind fun bt378 => ((replay_Stale.f l0 a1).bind fun t382 => (strakelaw18_ReplayParts.l0 k l0 t376 bt378.1 t382 0 0))) = some r := by rw [if_pos rfl] at H; exact H
      clear H
      have H := H1
      clear H1
      replace H := Option.bind_eq_some_iff.mp H
      obtain ⟨⟨t378, t379⟩, A80, H⟩ := H
      replace H : ((replay_Stale.f l0 a1).bind fun t382 => (strakelaw18_ReplayParts.l0 k l0 t376 t378 t382 0 0)) = some r := H
      have A8 := Aside0.mk A80
      clear A80
      replace H := Option.bind_eq_some_iff.mp H
      obtain ⟨t382, A90, H⟩ := H
      replace H : (strakelaw18_ReplayParts.l0 k l0 t376 t378 t382 0 0) = some r := H
      have A9 := Aside0.mk A90
      clear A90
      have H' := Aside0.mk H
      clear H
      go_enter Try.func7, Try.ntmps7
      go_wp2_with (first | (go_at_call 8; (with_reducible refine (strakelaw18_awake.calls  t376 _ A3.out).mono ?_); rintro e w10 ⟨rfl, hb⟩; have n0_ := Aside0.mk (below_step (by repeat (first | (with_reducible first | exact HB.out | apply below_alloc | apply pw_below_drewN | apply below_drew1) | exact HB.out)) hb); clear HB; have HB := n0_; clear n0_; (try clear hb); (try clear hb2); (try clear hk); (try clear hi)) | (go_at_call 13; (with_reducible refine (strakelaw18_apart.calls k _ _ l0 true _ ?side1 ?side2 A6.out).mono ?_); (case side1 => repeat (first | exact (Kd.C_below HR0.out HB.out) | (with_reducible refine Kd.C_alloc ?_ _) | (with_reducible refine Kd.C_drewN ?_ _) | (with_reducible refine Kd.C_drew ?_))); (case side2 => exact HC0.out); rintro e w' ⟨rfl, ⟨nd, rfl⟩⟩; (try first | exact ⟨rfl, _, World.drewN_drewN _ _ _⟩ | exact ⟨rfl, _, Eq.trans (World.drewN_drewN _ _ _) (congrArg (World.drewN _) (Nat.add_assoc _ _ _))⟩)) | (go_at_call 9; (with_reducible refine (replay_Newest.calls _ _ l0 a1 t378 t379 _ ?side1 ?side2 A8.out).mono ?_); (case side1 => repeat (first | exact (Kd.C_below HR0.out (by repeat (first | (with_reducible first | exact HB.out | apply below_alloc | apply pw_below_drewN | apply below_drew1) | exact HB.out))) | (with_reducible refine Kd.C_alloc ?_ _) | (with_reducible refine Kd.C_drewN ?_ _) | (with_reducible refine Kd.C_drew ?_))); (case side2 => exact HC0.out); rintro e w11 ⟨v380, rfl, ho0, hb⟩; have n0_ := Aside0.mk (Kd.R_lower ho0 (below_size (by repeat (first | (with_reducible first | exact HB.out | apply below_alloc | apply pw_below_drewN | apply below_drew1) | exact HB.out)))); have n1_ := Aside0.mk (below_step (by repeat (first | (with_reducible first | exact HB.out | apply below_alloc | apply pw_below_drewN | apply below_drew1) | exact HB.out)) hb); clear HB; have HO381 := n0_; have HB := n1_; clear n0_ n1_; (try clear hb); (try clear hb2); (try clear hk); (try clear hi); (try clear ho0)) | (go_at_call 11; (with_reducible refine (replay_Stale.calls _ _ l0 a1 t382 _ ?side1 ?side2 A9.out).mono ?_); (case side1 => repeat (first | exact (Kd.C_below HR0.out HB.out) | (with_reducible refine Kd.C_alloc ?_ _) | (with_reducible refine Kd.C_drewN ?_ _) | (with_reducible refine Kd.C_drew ?_))); (case side2 => exact HC0.out); rintro e w12 ⟨v383, rfl, ho0, hb⟩; have n0_ := Aside0.mk (Kd.R_below (by (with_reducible repeat (first | apply Kd.R_alloc | apply Kd.R_drewN | apply Kd.R_drew)); exact HO381.out) hb); have n1_ := Aside0.mk (Kd.R_lower ho0 (below_size (by repeat (first | (with_reducible first | exact HB.out | apply below_alloc | apply pw_below_drewN | apply below_drew1) | exact HB.out)))); have n2_ := Aside0.mk (below_step (by repeat (first | (with_reducible first | exact HB.out | apply below_alloc | apply pw_below_drewN | apply below_drew1) | exact HB.out)) hb); clear HO381; clear HB; have HO381 := n0_; have HO384 := n1_; have HB := n2_; clear n0_ n1_ n2_; (try clear hb); (try clear hb2); (try clear hk); (try clear hi); (try clear ho0)))
      repeat (go_quiet (first | (go_at_call 8; (with_reducible refine (strakelaw18_awake.calls  t376 _ A3.out).mono ?_); rintro e w10 ⟨rfl, hb⟩; have n0_ := Aside0.mk (below_step (by repeat (first | (with_reducible first | exact HB.out | apply below_alloc | apply pw_below_drewN | apply below_drew1) | exact HB.out)) hb); clear HB; have HB := n0_; clear n0_; (try clear hb); (try clear hb2); (try clear hk); (try clear hi)) | (go_at_call 13; (with_reducible refine (strakelaw18_apart.calls k _ _ l0 true _ ?side1 ?side2 A6.out).mono ?_); (case side1 => repeat (first | exact (Kd.C_below HR0.out HB.out) | (with_reducible refine Kd.C_alloc ?_ _) | (with_reducible refine Kd.C_drewN ?_ _) | (with_reducible refine Kd.C_drew ?_))); (case side2 => exact HC0.out); rintro e w' ⟨rfl, ⟨nd, rfl⟩⟩; (try first | exact ⟨rfl, _, World.drewN_drewN _ _ _⟩ | exact ⟨rfl, _, Eq.trans (World.drewN_drewN _ _ _) (congrArg (World.drewN _) (Nat.add_assoc _ _ _))⟩)) | (go_at_call 9; (with_reducible refine (replay_Newest.calls _ _ l0 a1 t378 t379 _ ?side1 ?side2 A8.out).mono ?_); (case side1 => repeat (first | exact (Kd.C_below HR0.out (by repeat (first | (with_reducible first | exact HB.out | apply below_alloc | apply pw_below_drewN | apply below_drew1) | exact HB.out))) | (with_reducible refine Kd.C_alloc ?_ _) | (with_reducible refine Kd.C_drewN ?_ _) | (with_reducible refine Kd.C_drew ?_))); (case side2 => exact HC0.out); rintro e w11 ⟨v380, rfl, ho0, hb⟩; have n0_ := Aside0.mk (Kd.R_lower ho0 (below_size (by repeat (first | (with_reducible first | exact HB.out | apply below_alloc | apply pw_below_drewN | apply below_drew1) | exact HB.out)))); have n1_ := Aside0.mk (below_step (by repeat (first | (with_reducible first | exact HB.out | apply below_alloc | apply pw_below_drewN | apply below_drew1) | exact HB.out)) hb); clear HB; have HO381 := n0_; have HB := n1_; clear n0_ n1_; (try clear hb); (try clear hb2); (try clear hk); (try clear hi); (try clear ho0)) | (go_at_call 11; (with_reducible refine (replay_Stale.calls _ _ l0 a1 t382 _ ?side1 ?side2 A9.out).mono ?_); (case side1 => repeat (first | exact (Kd.C_below HR0.out HB.out) | (with_reducible refine Kd.C_alloc ?_ _) | (with_reducible refine Kd.C_drewN ?_ _) | (with_reducible refine Kd.C_drew ?_))); (case side2 => exact HC0.out); rintro e w12 ⟨v383, rfl, ho0, hb⟩; have n0_ := Aside0.mk (Kd.R_below (by (with_reducible repeat (first | apply Kd.R_alloc | apply Kd.R_drewN | apply Kd.R_drew)); exact HO381.out) hb); have n1_ := Aside0.mk (Kd.R_lower ho0 (below_size (by repeat (first | (with_reducible first | exact HB.out | apply below_alloc | apply pw_below_drewN | apply below_drew1) | exact HB.out)))); have n2_ := Aside0.mk (below_step (by repeat (first | (with_reducible first | exact HB.out | apply below_alloc | apply pw_below_drewN | apply below_drew1) | exact HB.out)) hb); clear HO381; clear HB; have HO381 := n0_; have HO384 := n1_; have HB := n2_; clear n0_ n1_ n2_; (try clear hb); (try clear hb2); (try clear hk); (try clear hi); (try clear ho0))); try go_wp2_with (first | (go_at_call 8; (with_reducible refine (strakelaw18_awake.calls  t376 _ A3.out).mono ?_); rintro e w10 ⟨rfl, hb⟩; have n0_ := Aside0.mk (below_step (by repeat (first | (with_reducible first | exact HB.out | apply below_alloc | apply pw_below_drewN | apply below_drew1) | exact HB.out)) hb); clear HB; have HB := n0_; clear n0_; (try clear hb); (try clear hb2); (try clear hk); (try clear hi)) | (go_at_call 13; (with_reducible refine (strakelaw18_apart.calls k _ _ l0 true _ ?side1 ?side2 A6.out).mono ?_); (case side1 => repeat (first | exact (Kd.C_below HR0.out HB.out) | (with_reducible refine Kd.C_alloc ?_ _) | (with_reducible refine Kd.C_drewN ?_ _) | (with_reducible refine Kd.C_drew ?_))); (case side2 => exact HC0.out); rintro e w' ⟨rfl, ⟨nd, rfl⟩⟩; (try first | exact ⟨rfl, _, World.drewN_drewN _ _ _⟩ | exact ⟨rfl, _, Eq.trans (World.drewN_drewN _ _ _) (congrArg (World.drewN _) (Nat.add_assoc _ _ _))⟩)) | (go_at_call 9; (with_reducible refine (replay_Newest.calls _ _ l0 a1 t378 t379 _ ?side1 ?side2 A8.out).mono ?_); (case side1 => repeat (first | exact (Kd.C_below HR0.out (by repeat (first | (with_reducible first | exact HB.out | apply below_alloc | apply pw_below_drewN | apply below_drew1) | exact HB.out))) | (with_reducible refine Kd.C_alloc ?_ _) | (with_reducible refine Kd.C_drewN ?_ _) | (with_reducible refine Kd.C_drew ?_))); (case side2 => exact HC0.out); rintro e w11 ⟨v380, rfl, ho0, hb⟩; have n0_ := Aside0.mk (Kd.R_lower ho0 (below_size (by repeat (first | (with_reducible first | exact HB.out | apply below_alloc | apply pw_below_drewN | apply below_drew1) | exact HB.out)))); have n1_ := Aside0.mk (below_step (by repeat (first | (with_reducible first | exact HB.out | apply below_alloc | apply pw_below_drewN | apply below_drew1) | exact HB.out)) hb); clear HB; have HO381 := n0_; have HB := n1_; clear n0_ n1_; (try clear hb); (try clear hb2); (try clear hk); (try clear hi); (try clear ho0)) | (go_at_call 11; (with_reducible refine (replay_Stale.calls _ _ l0 a1 t382 _ ?side1 ?side2 A9.out).mono ?_); (case side1 => repeat (first | exact (Kd.C_below HR0.out HB.out) | (with_reducible refine Kd.C_alloc ?_ _) | (with_reducible refine Kd.C_drewN ?_ _) | (with_reducible refine Kd.C_drew ?_))); (case side2 => exact HC0.out); rintro e w12 ⟨v383, rfl, ho0, hb⟩; have n0_ := Aside0.mk (Kd.R_below (by (with_reducible repeat (first | apply Kd.R_alloc | apply Kd.R_drewN | apply Kd.R_drew)); exact HO381.out) hb); have n1_ := Aside0.mk (Kd.R_lower ho0 (below_size (by repeat (first | (with_reducible first | exact HB.out | apply below_alloc | apply pw_below_drewN | apply below_drew1) | exact HB.out)))); have n2_ := Aside0.mk (below_step (by repeat (first | (with_reducible first | exact HB.out | apply below_alloc | apply pw_below_drewN | apply below_drew1) | exact HB.out)) hb); clear HO381; clear HB; have HO381 := n0_; have HO384 := n1_; have HB := n2_; clear n0_ n1_ n2_; (try clear hb); (try clear hb2); (try clear hk); (try clear hi); (try clear ho0))))
      go_loopg [10, 11] k (fun kq v10 v11 w' => ∃ (x10_1 : Int) (x11_1 : Int), v10 = .int .i64 x10_1 ∧ v11 = .int .i64 x11_1 ∧ Aside0 (strakelaw18_ReplayParts.l0 kq l0 t376 t378 t382 x10_1 x11_1 = some r) ∧ Aside0 (kq ≤ k) ∧ Aside0 (Kd.R k33 33 w' w.heap.size (fun _ => True) v380 t378) ∧ Aside0 (Kd.R (Kd.int .i64) 3 w' w.heap.size (fun _ => True) v383 t382) ∧ Aside0 (Below w.heap.size w w'))
      case atStart => exact ⟨(0), (0), (by first | rfl | (simp; done) | (simp [*]; done)), (by first | rfl | (simp; done) | (simp [*]; done)), H', ⟨Nat.le_refl _⟩, ⟨by (with_reducible repeat (first | apply Kd.R_alloc | apply Kd.R_drewN | apply Kd.R_drew)); exact HO381.out⟩, ⟨by (with_reducible repeat (first | apply Kd.R_alloc | apply Kd.R_drewN | apply Kd.R_drew)); exact HO384.out⟩, ⟨by repeat (first | (with_reducible first | exact HB.out | apply below_alloc | apply pw_below_drewN | apply below_drew1) | exact HB.out)⟩⟩
      case round =>
        clear H'
        try clear p2
        try clear c4
        try clear c4b0
        try clear c4b1
        try clear c7
        obtain ⟨x10_1, x11_1, rfl, rfl, HA, HK1, HO_7, HO_9, HB⟩ := hrel
        cases gk with
        | zero => exact absurd HA.out (by simp [strakelaw18_ReplayParts.l0])
        | succ k1 =>
          have H := HA.out
          clear HA
          simp only [strakelaw18_ReplayParts.l0] at H
          by_cases c13 : x11_1 < (t378.length : Int)
          · rw [if_pos c13] at H
            have c13b0 : decide (x11_1 < (t378.length : Int)) = true := decide_eq_true c13
            clear c13
            by_cases c14 : 0 ≤ x11_1
            · rw [if_pos c14] at H
              have c14b0 : decide (0 ≤ x11_1) = true := decide_eq_true c14
              clear c14
              by_cases c15 : ((rd_T33 t378 x11_1).f0) ≥ 0
              · rw [if_pos c15] at H
                have c15b0 : decide (0 ≤ ((rd_T33 t378 x11_1).f0)) = true := decide_eq_true c15
                clear c15
                have H' := Aside0.mk H
                clear H
                obtain ⟨Ao16, co16, eo16⟩ := Kd.R_slice HO_7.out
                subst eo16
                have p385 : 0 ≤ (x11_1 : Int) := of_decide_eq_true (by first | (with_reducible assumption) | assumption)
                have q385 : x11_1 < (t378.length : Int) := of_decide_eq_true (by first | (with_reducible assumption) | assumption)
                obtain ⟨ad385, e385, hx385_0, hx385_1, hx385_2⟩ := at_T33 (Kd.R_reads' HO_7.out).2.2 x11_1 p385 q385
                cases e385
                replace p385 := eq_true p385
                replace q385 := eq_true q385
                go_wp2
                repeat (go_quiet (fail); try go_wp2)
                go_roundg k1
                case measure => have := HK1.out; omega
                case rel => exact ⟨(wrap64 (x10_1 + 1)), (wrap64 (x11_1 + 1)), (by first | rfl | (simp; done) | (simp [*]; done)), (by first | rfl | (simp; done) | (simp [*]; done)), H', ⟨by have := HK1.out; omega⟩, ⟨by (with_reducible repeat (first | apply Kd.R_alloc | apply Kd.R_drewN | apply Kd.R_drew)); exact HO_7.out⟩, ⟨by (with_reducible repeat (first | apply Kd.R_alloc | apply Kd.R_drewN | apply Kd.R_drew)); exact HO_9.out⟩, ⟨by repeat (first | (with_reducible first | exact HB.out | apply below_alloc | apply pw_below_drewN | apply below_drew1) | exact HB.out)⟩⟩
              · rw [if_neg c15] at H
                have c15b0 : decide (0 ≤ ((rd_T33 t378 x11_1).f0)) = false := decide_eq_false c15
                clear c15
                have H' := Aside0.mk H
                clear H
                obtain ⟨Ao17, co17, eo17⟩ := Kd.R_slice HO_7.out
                subst eo17
                have p385 : 0 ≤ (x11_1 : Int) := of_decide_eq_true (by first | (with_reducible assumption) | assumption)
                have q385 : x11_1 < (t378.length : Int) := of_decide_eq_true (by first | (with_reducible assumption) | assumption)
                obtain ⟨ad385, e385, hx385_0, hx385_1, hx385_2⟩ := at_T33 (Kd.R_reads' HO_7.out).2.2 x11_1 p385 q385
                cases e385
                replace p385 := eq_true p385
                replace q385 := eq_true q385
                go_wp2
                repeat (go_quiet (fail); try go_wp2)
                go_roundg k1
                case measure => have := HK1.out; omega
                case rel => exact ⟨(x10_1), (wrap64 (x11_1 + 1)), (by first | rfl | (simp; done) | (simp [*]; done)), (by first | rfl | (simp; done) | (simp [*]; done)), H', ⟨by have := HK1.out; omega⟩, ⟨by (with_reducible repeat (first | apply Kd.R_alloc | apply Kd.R_drewN | apply Kd.R_drew)); exact HO_7.out⟩, ⟨by (with_reducible repeat (first | apply Kd.R_alloc | apply Kd.R_drewN | apply Kd.R_drew)); exact HO_9.out⟩, ⟨by repeat (first | (with_reducible first | exact HB.out | apply below_alloc | apply pw_below_drewN | apply below_drew1) | exact HB.out)⟩⟩
            · rw [if_neg c14] at H
              exact absurd H (by simp)
          · rw [if_neg c13] at H
            have c13b0 : decide (x11_1 < (t378.length : Int)) = false := decide_eq_false c13
            clear c13
            have H' := Aside0.mk H
            clear H
            obtain ⟨Ao18, co18, eo18⟩ := Kd.R_slice HO_7.out
            subst eo18
            go_wp2
            repeat (go_quiet (fail); try go_wp2)
            go_loopg [10, 12] k1 (fun kq v10 v12 w' => ∃ (x10_2 : Int) (x12_2 : Int), v10 = .int .i64 x10_2 ∧ v12 = .int .i64 x12_2 ∧ Aside0 (strakelaw18_ReplayParts.l1 kq l0 t376 t378 t382 x10_2 x12_2 = some r) ∧ Aside0 (kq ≤ k1) ∧ Aside0 (Kd.R k33 33 w' w.heap.size (fun _ => True) (.slice Ao18 t378.length co18) t378) ∧ Aside0 (Kd.R (Kd.int .i64) 3 w' w.heap.size (fun _ => True) v383 t382) ∧ Aside0 (Below w.heap.size w w'))
            case atStart => exact ⟨(x10_1), (0), (by first | rfl | (simp; done) | (simp [*]; done)), (by first | rfl | (simp; done) | (simp [*]; done)), H', ⟨Nat.le_refl _⟩, ⟨by (with_reducible repeat (first | apply Kd.R_alloc | apply Kd.R_drewN | apply Kd.R_drew)); exact HO_7.out⟩, ⟨by (with_reducible repeat (first | apply Kd.R_alloc | apply Kd.R_drewN | apply Kd.R_drew)); exact HO_9.out⟩, ⟨by repeat (first | (with_reducible first | exact HB.out | apply below_alloc | apply pw_below_drewN | apply below_drew1) | exact HB.out)⟩⟩
            case round =>
              clear H'
              try clear c1
              try clear p2
              try clear p3
              try clear q3
              try clear hx3
              try clear c4
              try clear c4b0
              try clear c4b1
              try clear p6
              try clear c7
              try clear c13
              try clear c13b0
              try clear c14
              try clear c14b0
              try clear c15
              try clear c15b0
              try clear hx385_0
              try clear hx385_1
              try clear hx385_2
              try clear p2
              try clear p385
              try clear q385
              obtain ⟨x10_2, x12_2, rfl, rfl, HA, HK2, HO_7, HO_9, HB⟩ := hrel
              cases gk with
              | zero => exact absurd HA.out (by simp [strakelaw18_ReplayParts.l1])
              | succ k2 =>
                have H := HA.out
                clear HA
                simp only [strakelaw18_ReplayParts.l1] at H
                by_cases c19 : x12_2 < (l0.length : Int)
                · rw [if_pos c19] at H
                  have c19b0 : decide (x12_2 < (l0.length : Int)) = true := decide_eq_true c19
                  clear c19
                  by_cases c20 : 0 ≤ x12_2
                  · rw [if_pos c20] at H
                    have c20b0 : decide (0 ≤ x12_2) = true := decide_eq_true c20
                    clear c20
                    have HC21 := Aside0.mk H
                    clear H
                    have p386 : 0 ≤ (x12_2 : Int) := of_decide_eq_true (by first | (with_reducible assumption) | assumption)
                    have q386 : x12_2 < (l0.length : Int) := of_decide_eq_true (by first | (with_reducible assumption) | assumption)
                    obtain ⟨ad386, e386, hx386_0, hx386_1, hx386_2, hx386_3, hx386_4⟩ := at_T27 HR0.out x12_2 p386 q386
                    cases e386
                    replace hx386_0 := (HB.out.cell (World.block_lt_of_cell? w _ hx386_0)).trans hx386_0
                    replace hx386_1 := (HB.out.cell (World.block_lt_of_cell? w _ hx386_1)).trans hx386_1
                    replace hx386_2 := (HB.out.cell (World.block_lt_of_cell? w _ hx386_2)).trans hx386_2
                    replace hx386_3 := (HB.out.cell (World.block_lt_of_cell? w _ hx386_3)).trans hx386_3
                    replace hx386_4 := (HB.out.cell (World.block_lt_of_cell? w _ hx386_4)).trans hx386_4
                    replace p386 := eq_true p386
                    replace q386 := eq_true q386
                    go_upto_region 19 with (first | ((with_reducible refine gate_dst (N := 13) rfl ?_); (try (refine gate_guard (by rfl) ?_; dsimp only)); refine box_event ?hg (N := 13) ?hd (cs := #[.int .i64 0, .int .i64 0, .int .i64 0, .int .i64 0, .slice none 0 0]) (t := 27) ?hr ?_; (case hd => rfl); (case hg => rfl); (case hr => first | (go_simp; done) | (go_simp; rfl)); intro gb387 hg w22 hbox hb; have n0_ := Aside0.mk (Kd.R_below (by (with_reducible repeat (first | apply Kd.R_alloc | apply Kd.R_drewN | apply Kd.R_drew)); exact HO_7.out) hb); have n1_ := Aside0.mk (Kd.R_below (by (with_reducible repeat (first | apply Kd.R_alloc | apply Kd.R_drewN | apply Kd.R_drew)); exact HO_9.out) hb); have n2_ := Aside0.mk (below_step (by repeat (first | (with_reducible first | exact HB.out | apply below_alloc | apply pw_below_drewN | apply below_drew1) | exact HB.out)) hb); have n3_ := Aside0.mk (hbox); have n4_ := Aside0.mk ((by rw [hg]; exact (below_size (by repeat (first | (with_reducible first | exact HB.out | apply below_alloc | apply pw_below_drewN | apply below_drew1) | exact HB.out))) : w.heap.size ≤ gb387)); have n5_ := Aside0.mk ((by rw [hg]; exact (below_size (by repeat (first | (with_reducible first | exact HB.out | apply below_alloc | apply pw_below_drewN | apply below_drew1) | exact HB.out))) : w.heap.size ≤ gb387)); clear HO_7; clear HO_9; clear HB; have HO_7 := n0_; have HO_9 := n1_; have HB := n2_; have BK387 := n3_; have GW387 := n4_; have GE387 := n5_; clear n0_ n1_ n2_ n3_ n4_ n5_; clear hb hbox hg; have hcz23_0 : w22.cell? ⟨gb387, 0, none⟩ = some (.int .i64 0) := (blk_cell BK387.out 0).trans rfl; have hcz23_1 : w22.cell? ⟨gb387, 1, none⟩ = some (.int .i64 0) := (blk_cell BK387.out 1).trans rfl; have hcz23_2 : w22.cell? ⟨gb387, 2, none⟩ = some (.int .i64 0) := (blk_cell BK387.out 2).trans rfl; have hcz23_3 : w22.cell? ⟨gb387, 3, none⟩ = some (.int .i64 0) := (blk_cell BK387.out 3).trans rfl; have hcz23_4 : w22.cell? ⟨gb387, 4, none⟩ = some (.slice none 0 0) := (blk_cell BK387.out 4).trans rfl; have hfz23_0 := blk_frozen BK387.out 0; have hfz23_1 := blk_frozen BK387.out 1; have hfz23_2 := blk_frozen BK387.out 2; have hfz23_3 := blk_frozen BK387.out 3; have hfz23_4 := blk_frozen BK387.out 4))
                    repeat (go_quiet (first | ((with_reducible refine gate_dst (N := 13) rfl ?_); (try (refine gate_guard (by rfl) ?_; dsimp only)); refine box_event ?hg (N := 13) ?hd (cs := #[.int .i64 0, .int .i64 0, .int .i64 0, .int .i64 0, .slice none 0 0]) (t := 27) ?hr ?_; (case hd => rfl); (case hg => rfl); (case hr => first | (go_simp; done) | (go_simp; rfl)); intro gb387 hg w22 hbox hb; have n0_ := Aside0.mk (Kd.R_below (by (with_reducible repeat (first | apply Kd.R_alloc | apply Kd.R_drewN | apply Kd.R_drew)); exact HO_7.out) hb); have n1_ := Aside0.mk (Kd.R_below (by (with_reducible repeat (first | apply Kd.R_alloc | apply Kd.R_drewN | apply Kd.R_drew)); exact HO_9.out) hb); have n2_ := Aside0.mk (below_step (by repeat (first | (with_reducible first | exact HB.out | apply below_alloc | apply pw_below_drewN | apply below_drew1) | exact HB.out)) hb); have n3_ := Aside0.mk (hbox); have n4_ := Aside0.mk ((by rw [hg]; exact (below_size (by repeat (first | (with_reducible first | exact HB.out | apply below_alloc | apply pw_below_drewN | apply below_drew1) | exact HB.out))) : w.heap.size ≤ gb387)); have n5_ := Aside0.mk ((by rw [hg]; exact (below_size (by repeat (first | (with_reducible first | exact HB.out | apply below_alloc | apply pw_below_drewN | apply below_drew1) | exact HB.out))) : w.heap.size ≤ gb387)); clear HO_7; clear HO_9; clear HB; have HO_7 := n0_; have HO_9 := n1_; have HB := n2_; have BK387 := n3_; have GW387 := n4_; have GE387 := n5_; clear n0_ n1_ n2_ n3_ n4_ n5_; clear hb hbox hg; have hcz23_0 : w22.cell? ⟨gb387, 0, none⟩ = some (.int .i64 0) := (blk_cell BK387.out 0).trans rfl; have hcz23_1 : w22.cell? ⟨gb387, 1, none⟩ = some (.int .i64 0) := (blk_cell BK387.out 1).trans rfl; have hcz23_2 : w22.cell? ⟨gb387, 2, none⟩ = some (.int .i64 0) := (blk_cell BK387.out 2).trans rfl; have hcz23_3 : w22.cell? ⟨gb387, 3, none⟩ = some (.int .i64 0) := (blk_cell BK387.out 3).trans rfl; have hcz23_4 : w22.cell? ⟨gb387, 4, none⟩ = some (.slice none 0 0) := (blk_cell BK387.out 4).trans rfl; have hfz23_0 := blk_frozen BK387.out 0; have hfz23_1 := blk_frozen BK387.out 1; have hfz23_2 := blk_frozen BK387.out 2; have hfz23_3 := blk_frozen BK387.out 3; have hfz23_4 := blk_frozen BK387.out 4)); go_upto_region 19 with (first | ((with_reducible refine gate_dst (N := 13) rfl ?_); (try (refine gate_guard (by rfl) ?_; dsimp only)); refine box_event ?hg (N := 13) ?hd (cs := #[.int .i64 0, .int .i64 0, .int .i64 0, .int .i64 0, .slice none 0 0]) (t := 27) ?hr ?_; (case hd => rfl); (case hg => rfl); (case hr => first | (go_simp; done) | (go_simp; rfl)); intro gb387 hg w22 hbox hb; have n0_ := Aside0.mk (Kd.R_below (by (with_reducible repeat (first | apply Kd.R_alloc | apply Kd.R_drewN | apply Kd.R_drew)); exact HO_7.out) hb); have n1_ := Aside0.mk (Kd.R_below (by (with_reducible repeat (first | apply Kd.R_alloc | apply Kd.R_drewN | apply Kd.R_drew)); exact HO_9.out) hb); have n2_ := Aside0.mk (below_step (by repeat (first | (with_reducible first | exact HB.out | apply below_alloc | apply pw_below_drewN | apply below_drew1) | exact HB.out)) hb); have n3_ := Aside0.mk (hbox); have n4_ := Aside0.mk ((by rw [hg]; exact (below_size (by repeat (first | (with_reducible first | exact HB.out | apply below_alloc | apply pw_below_drewN | apply below_drew1) | exact HB.out))) : w.heap.size ≤ gb387)); have n5_ := Aside0.mk ((by rw [hg]; exact (below_size (by repeat (first | (with_reducible first | exact HB.out | apply below_alloc | apply pw_below_drewN | apply below_drew1) | exact HB.out))) : w.heap.size ≤ gb387)); clear HO_7; clear HO_9; clear HB; have HO_7 := n0_; have HO_9 := n1_; have HB := n2_; have BK387 := n3_; have GW387 := n4_; have GE387 := n5_; clear n0_ n1_ n2_ n3_ n4_ n5_; clear hb hbox hg; have hcz23_0 : w22.cell? ⟨gb387, 0, none⟩ = some (.int .i64 0) := (blk_cell BK387.out 0).trans rfl; have hcz23_1 : w22.cell? ⟨gb387, 1, none⟩ = some (.int .i64 0) := (blk_cell BK387.out 1).trans rfl; have hcz23_2 : w22.cell? ⟨gb387, 2, none⟩ = some (.int .i64 0) := (blk_cell BK387.out 2).trans rfl; have hcz23_3 : w22.cell? ⟨gb387, 3, none⟩ = some (.int .i64 0) := (blk_cell BK387.out 3).trans rfl; have hcz23_4 : w22.cell? ⟨gb387, 4, none⟩ = some (.slice none 0 0) := (blk_cell BK387.out 4).trans rfl; have hfz23_0 := blk_frozen BK387.out 0; have hfz23_1 := blk_frozen BK387.out 1; have hfz23_2 := blk_frozen BK387.out 2; have hfz23_3 := blk_frozen BK387.out 3; have hfz23_4 := blk_frozen BK387.out 4)))
                    (try simp only [Act.put, List.setIfInBounds_toArray, List.set_cons_zero, List.set_cons_succ])
                    go_cut [100] (fun v100 wc => ∃ (kq : Nat) (x100_20 : Bool), v100 = .bool x100_20 ∧ Aside0 (strakelaw18_ReplayParts.j2 kq l0 t376 t378 t382 x10_2 x12_2 x100_20 ((rd_T27 l0 x12_2).f0) ((rd_T27 l0 x12_2).f1.f0) ((rd_T27 l0 x12_2).f1.f1) ((rd_T27 l0 x12_2).f1.f2) ((rd_T27 l0 x12_2).f2) = some r) ∧ Aside0 (kq ≤ k2) ∧ Aside0 (Kd.R k33 33 wc w.heap.size (fun _ => True) (.slice Ao18 t378.length co18) t378) ∧ Aside0 (Kd.R (Kd.int .i64) 3 wc w.heap.size (fun _ => True) v383 t382) ∧ Aside0 (wc.heap[gb387]? = some (.cells #[.int .i64 ((rd_T27 l0 x12_2).f0), .int .i64 ((rd_T27 l0 x12_2).f1.f0), .int .i64 ((rd_T27 l0 x12_2).f1.f1), .int .i64 ((rd_T27 l0 x12_2).f1.f2), .slice ((rd_T27 l0 x12_2).f2).a ((rd_T27 l0 x12_2).f2).n ((rd_T27 l0 x12_2).f2).c] 27 (0, 0))) ∧ Aside0 (Below w.heap.size w wc))
                    case first =>
                      have H := HC21.out
                      clear HC21
                      by_cases c24 : ((rd_T27 l0 x12_2).f1.f0) < 1
                      · rw [if_pos c24] at H
                        have c24b0 : decide (((rd_T27 l0 x12_2).f1.f0) < 1) = true := decide_eq_true c24
                        clear c24
                        (first | rw [c24b0] | (simp only [i64_w, i32_w]; rw [c24b0]) | skip)
                        have H' := Aside0.mk H
                        clear H
                        have hcz25_0 : w22.cell? ⟨gb387, 0, none⟩ = some (.int .i64 0) := (blk_cell BK387.out 0).trans rfl
                        have hcz25_1 : w22.cell? ⟨gb387, 1, none⟩ = some (.int .i64 0) := (blk_cell BK387.out 1).trans rfl
                        have hcz25_2 : w22.cell? ⟨gb387, 2, none⟩ = some (.int .i64 0) := (blk_cell BK387.out 2).trans rfl
                        have hcz25_3 : w22.cell? ⟨gb387, 3, none⟩ = some (.int .i64 0) := (blk_cell BK387.out 3).trans rfl
                        have hcz25_4 : w22.cell? ⟨gb387, 4, none⟩ = some (.slice none 0 0) := (blk_cell BK387.out 4).trans rfl
                        have hfz25_0 := blk_frozen BK387.out 0
                        have hfz25_1 := blk_frozen BK387.out 1
                        have hfz25_2 := blk_frozen BK387.out 2
                        have hfz25_3 := blk_frozen BK387.out 3
                        have hfz25_4 := blk_frozen BK387.out 4
                        go_wp2
                        repeat (go_quiet (fail); try go_wp2)
                        go_meet
                        case rel => exact ⟨_, (true), (by first | rfl | (simp; done) | (simp [*]; done)), H', ⟨by have := HK1.out; have := HK2.out; first | omega | exact Nat.le_refl _⟩, ⟨by (with_reducible repeat (first | apply Kd.R_alloc | apply Kd.R_drewN | apply Kd.R_drew)); exact Kd.R_mono (Kd.R_far (p := ⟨gb387, 4, none⟩) (Kd.R_far (p := ⟨gb387, 3, none⟩) (Kd.R_far (p := ⟨gb387, 2, none⟩) (Kd.R_far (p := ⟨gb387, 1, none⟩) (Kd.R_far (p := ⟨gb387, 0, none⟩) (Kd.R_types HO_7.out BK387.out (by decide)) (fun _ hk => hk.2) (.int .i64 ((rd_T27 l0 x12_2).f0))) (fun _ hk => hk.2) (.int .i64 ((rd_T27 l0 x12_2).f1.f0))) (fun _ hk => hk.2) (.int .i64 ((rd_T27 l0 x12_2).f1.f1))) (fun _ hk => hk.2) (.int .i64 ((rd_T27 l0 x12_2).f1.f2))) (fun _ hk => hk.2) (.slice ((rd_T27 l0 x12_2).f2).a ((rd_T27 l0 x12_2).f2).n ((rd_T27 l0 x12_2).f2).c)) (fun _ hk => trivial)⟩, ⟨by (with_reducible repeat (first | apply Kd.R_alloc | apply Kd.R_drewN | apply Kd.R_drew)); exact Kd.R_mono (Kd.R_far (p := ⟨gb387, 4, none⟩) (Kd.R_far (p := ⟨gb387, 3, none⟩) (Kd.R_far (p := ⟨gb387, 2, none⟩) (Kd.R_far (p := ⟨gb387, 1, none⟩) (Kd.R_far (p := ⟨gb387, 0, none⟩) (Kd.R_types HO_9.out BK387.out (by decide)) (fun _ hk => hk.2) (.int .i64 ((rd_T27 l0 x12_2).f0))) (fun _ hk => hk.2) (.int .i64 ((rd_T27 l0 x12_2).f1.f0))) (fun _ hk => hk.2) (.int .i64 ((rd_T27 l0 x12_2).f1.f1))) (fun _ hk => hk.2) (.int .i64 ((rd_T27 l0 x12_2).f1.f2))) (fun _ hk => hk.2) (.slice ((rd_T27 l0 x12_2).f2).a ((rd_T27 l0 x12_2).f2).n ((rd_T27 l0 x12_2).f2).c)) (fun _ hk => trivial)⟩, ⟨by (with_reducible repeat (first | refine blk_drewN ?_ _ | refine blk_drew ?_ | refine blk_alloc ?_ _)); refine blk_put (cs := #[.int .i64 ((rd_T27 l0 x12_2).f0), .int .i64 ((rd_T27 l0 x12_2).f1.f0), .int .i64 ((rd_T27 l0 x12_2).f1.f1), .int .i64 ((rd_T27 l0 x12_2).f1.f2), .slice none 0 0]) ?_ 4 _ rfl; (with_reducible repeat (first | refine blk_drewN ?_ _ | refine blk_drew ?_ | refine blk_alloc ?_ _)); refine blk_put (cs := #[.int .i64 ((rd_T27 l0 x12_2).f0), .int .i64 ((rd_T27 l0 x12_2).f1.f0), .int .i64 ((rd_T27 l0 x12_2).f1.f1), .int .i64 0, .slice none 0 0]) ?_ 3 _ rfl; (with_reducible repeat (first | refine blk_drewN ?_ _ | refine blk_drew ?_ | refine blk_alloc ?_ _)); refine blk_put (cs := #[.int .i64 ((rd_T27 l0 x12_2).f0), .int .i64 ((rd_T27 l0 x12_2).f1.f0), .int .i64 0, .int .i64 0, .slice none 0 0]) ?_ 2 _ rfl; (with_reducible repeat (first | refine blk_drewN ?_ _ | refine blk_drew ?_ | refine blk_alloc ?_ _)); refine blk_put (cs := #[.int .i64 ((rd_T27 l0 x12_2).f0), .int .i64 0, .int .i64 0, .int .i64 0, .slice none 0 0]) ?_ 1 _ rfl; (with_reducible repeat (first | refine blk_drewN ?_ _ | refine blk_drew ?_ | refine blk_alloc ?_ _)); refine blk_put (cs := #[.int .i64 0, .int .i64 0, .int .i64 0, .int .i64 0, .slice none 0 0]) ?_ 0 _ rfl; (with_reducible repeat (first | refine blk_drewN ?_ _ | refine blk_drew ?_ | refine blk_alloc ?_ _)); exact BK387.out⟩, ⟨by repeat (first | (with_reducible first | exact HB.out | apply below_alloc | apply pw_below_drewN | apply below_drew1 | refine below_set ?_ GE387.out) | exact HB.out)⟩⟩
                      · rw [if_neg c24] at H
                        have c24b0 : decide (((rd_T27 l0 x12_2).f1.f0) < 1) = false := decide_eq_false c24
                        clear c24
                        (first | rw [c24b0] | (simp only [i64_w, i32_w]; rw [c24b0]) | skip)
                        by_cases c26 : ((rd_T27 l0 x12_2).f1.f0) > 2
                        · rw [if_pos c26] at H
                          have c26b0 : decide (2 < ((rd_T27 l0 x12_2).f1.f0)) = true := decide_eq_true c26
                          clear c26
                          have H' := Aside0.mk H
                          clear H
                          have hcz27_0 : w22.cell? ⟨gb387, 0, none⟩ = some (.int .i64 0) := (blk_cell BK387.out 0).trans rfl
                          have hcz27_1 : w22.cell? ⟨gb387, 1, none⟩ = some (.int .i64 0) := (blk_cell BK387.out 1).trans rfl
                          have hcz27_2 : w22.cell? ⟨gb387, 2, none⟩ = some (.int .i64 0) := (blk_cell BK387.out 2).trans rfl
                          have hcz27_3 : w22.cell? ⟨gb387, 3, none⟩ = some (.int .i64 0) := (blk_cell BK387.out 3).trans rfl
                          have hcz27_4 : w22.cell? ⟨gb387, 4, none⟩ = some (.slice none 0 0) := (blk_cell BK387.out 4).trans rfl
                          have hfz27_0 := blk_frozen BK387.out 0
                          have hfz27_1 := blk_frozen BK387.out 1
                          have hfz27_2 := blk_frozen BK387.out 2
                          have hfz27_3 := blk_frozen BK387.out 3
                          have hfz27_4 := blk_frozen BK387.out 4
                          go_wp2
                          repeat (go_quiet (fail); try go_wp2)
                          go_meet
                          case rel => exact ⟨_, (true), (by first | rfl | (simp; done) | (simp [*]; done)), H', ⟨by have := HK1.out; have := HK2.out; first | omega | exact Nat.le_refl _⟩, ⟨by (with_reducible repeat (first | apply Kd.R_alloc | apply Kd.R_drewN | apply Kd.R_drew)); exact Kd.R_mono (Kd.R_far (p := ⟨gb387, 4, none⟩) (Kd.R_far (p := ⟨gb387, 3, none⟩) (Kd.R_far (p := ⟨gb387, 2, none⟩) (Kd.R_far (p := ⟨gb387, 1, none⟩) (Kd.R_far (p := ⟨gb387, 0, none⟩) (Kd.R_types HO_7.out BK387.out (by decide)) (fun _ hk => hk.2) (.int .i64 ((rd_T27 l0 x12_2).f0))) (fun _ hk => hk.2) (.int .i64 ((rd_T27 l0 x12_2).f1.f0))) (fun _ hk => hk.2) (.int .i64 ((rd_T27 l0 x12_2).f1.f1))) (fun _ hk => hk.2) (.int .i64 ((rd_T27 l0 x12_2).f1.f2))) (fun _ hk => hk.2) (.slice ((rd_T27 l0 x12_2).f2).a ((rd_T27 l0 x12_2).f2).n ((rd_T27 l0 x12_2).f2).c)) (fun _ hk => trivial)⟩, ⟨by (with_reducible repeat (first | apply Kd.R_alloc | apply Kd.R_drewN | apply Kd.R_drew)); exact Kd.R_mono (Kd.R_far (p := ⟨gb387, 4, none⟩) (Kd.R_far (p := ⟨gb387, 3, none⟩) (Kd.R_far (p := ⟨gb387, 2, none⟩) (Kd.R_far (p := ⟨gb387, 1, none⟩) (Kd.R_far (p := ⟨gb387, 0, none⟩) (Kd.R_types HO_9.out BK387.out (by decide)) (fun _ hk => hk.2) (.int .i64 ((rd_T27 l0 x12_2).f0))) (fun _ hk => hk.2) (.int .i64 ((rd_T27 l0 x12_2).f1.f0))) (fun _ hk => hk.2) (.int .i64 ((rd_T27 l0 x12_2).f1.f1))) (fun _ hk => hk.2) (.int .i64 ((rd_T27 l0 x12_2).f1.f2))) (fun _ hk => hk.2) (.slice ((rd_T27 l0 x12_2).f2).a ((rd_T27 l0 x12_2).f2).n ((rd_T27 l0 x12_2).f2).c)) (fun _ hk => trivial)⟩, ⟨by (with_reducible repeat (first | refine blk_drewN ?_ _ | refine blk_drew ?_ | refine blk_alloc ?_ _)); refine blk_put (cs := #[.int .i64 ((rd_T27 l0 x12_2).f0), .int .i64 ((rd_T27 l0 x12_2).f1.f0), .int .i64 ((rd_T27 l0 x12_2).f1.f1), .int .i64 ((rd_T27 l0 x12_2).f1.f2), .slice none 0 0]) ?_ 4 _ rfl; (with_reducible repeat (first | refine blk_drewN ?_ _ | refine blk_drew ?_ | refine blk_alloc ?_ _)); refine blk_put (cs := #[.int .i64 ((rd_T27 l0 x12_2).f0), .int .i64 ((rd_T27 l0 x12_2).f1.f0), .int .i64 ((rd_T27 l0 x12_2).f1.f1), .int .i64 0, .slice none 0 0]) ?_ 3 _ rfl; (with_reducible repeat (first | refine blk_drewN ?_ _ | refine blk_drew ?_ | refine blk_alloc ?_ _)); refine blk_put (cs := #[.int .i64 ((rd_T27 l0 x12_2).f0), .int .i64 ((rd_T27 l0 x12_2).f1.f0), .int .i64 0, .int .i64 0, .slice none 0 0]) ?_ 2 _ rfl; (with_reducible repeat (first | refine blk_drewN ?_ _ | refine blk_drew ?_ | refine blk_alloc ?_ _)); refine blk_put (cs := #[.int .i64 ((rd_T27 l0 x12_2).f0), .int .i64 0, .int .i64 0, .int .i64 0, .slice none 0 0]) ?_ 1 _ rfl; (with_reducible repeat (first | refine blk_drewN ?_ _ | refine blk_drew ?_ | refine blk_alloc ?_ _)); refine blk_put (cs := #[.int .i64 0, .int .i64 0, .int .i64 0, .int .i64 0, .slice none 0 0]) ?_ 0 _ rfl; (with_reducible repeat (first | refine blk_drewN ?_ _ | refine blk_drew ?_ | refine blk_alloc ?_ _)); exact BK387.out⟩, ⟨by repeat (first | (with_reducible first | exact HB.out | apply below_alloc | apply pw_below_drewN | apply below_drew1 | refine below_set ?_ GE387.out) | exact HB.out)⟩⟩
                        · rw [if_neg c26] at H
                          have c26b0 : decide (2 < ((rd_T27 l0 x12_2).f1.f0)) = false := decide_eq_false c26
                          clear c26
                          by_cases c28 : ((rd_T27 l0 x12_2).f1.f1) < 0
                          · rw [if_pos c28] at H
                            have c28b0 : decide (((rd_T27 l0 x12_2).f1.f1) < 0) = true := decide_eq_true c28
                            clear c28
                            have H' := Aside0.mk H
                            clear H
                            have hcz29_0 : w22.cell? ⟨gb387, 0, none⟩ = some (.int .i64 0) := (blk_cell BK387.out 0).trans rfl
                            have hcz29_1 : w22.cell? ⟨gb387, 1, none⟩ = some (.int .i64 0) := (blk_cell BK387.out 1).trans rfl
                            have hcz29_2 : w22.cell? ⟨gb387, 2, none⟩ = some (.int .i64 0) := (blk_cell BK387.out 2).trans rfl
                            have hcz29_3 : w22.cell? ⟨gb387, 3, none⟩ = some (.int .i64 0) := (blk_cell BK387.out 3).trans rfl
                            have hcz29_4 : w22.cell? ⟨gb387, 4, none⟩ = some (.slice none 0 0) := (blk_cell BK387.out 4).trans rfl
                            have hfz29_0 := blk_frozen BK387.out 0
                            have hfz29_1 := blk_frozen BK387.out 1
                            have hfz29_2 := blk_frozen BK387.out 2
                            have hfz29_3 := blk_frozen BK387.out 3
                            have hfz29_4 := blk_frozen BK387.out 4
                            go_wp2
                            repeat (go_quiet (fail); try go_wp2)
                            go_meet
                            case rel => exact ⟨_, (true), (by first | rfl | (simp; done) | (simp [*]; done)), H', ⟨by have := HK1.out; have := HK2.out; first | omega | exact Nat.le_refl _⟩, ⟨by (with_reducible repeat (first | apply Kd.R_alloc | apply Kd.R_drewN | apply Kd.R_drew)); exact Kd.R_mono (Kd.R_far (p := ⟨gb387, 4, none⟩) (Kd.R_far (p := ⟨gb387, 3, none⟩) (Kd.R_far (p := ⟨gb387, 2, none⟩) (Kd.R_far (p := ⟨gb387, 1, none⟩) (Kd.R_far (p := ⟨gb387, 0, none⟩) (Kd.R_types HO_7.out BK387.out (by decide)) (fun _ hk => hk.2) (.int .i64 ((rd_T27 l0 x12_2).f0))) (fun _ hk => hk.2) (.int .i64 ((rd_T27 l0 x12_2).f1.f0))) (fun _ hk => hk.2) (.int .i64 ((rd_T27 l0 x12_2).f1.f1))) (fun _ hk => hk.2) (.int .i64 ((rd_T27 l0 x12_2).f1.f2))) (fun _ hk => hk.2) (.slice ((rd_T27 l0 x12_2).f2).a ((rd_T27 l0 x12_2).f2).n ((rd_T27 l0 x12_2).f2).c)) (fun _ hk => trivial)⟩, ⟨by (with_reducible repeat (first | apply Kd.R_alloc | apply Kd.R_drewN | apply Kd.R_drew)); exact Kd.R_mono (Kd.R_far (p := ⟨gb387, 4, none⟩) (Kd.R_far (p := ⟨gb387, 3, none⟩) (Kd.R_far (p := ⟨gb387, 2, none⟩) (Kd.R_far (p := ⟨gb387, 1, none⟩) (Kd.R_far (p := ⟨gb387, 0, none⟩) (Kd.R_types HO_9.out BK387.out (by decide)) (fun _ hk => hk.2) (.int .i64 ((rd_T27 l0 x12_2).f0))) (fun _ hk => hk.2) (.int .i64 ((rd_T27 l0 x12_2).f1.f0))) (fun _ hk => hk.2) (.int .i64 ((rd_T27 l0 x12_2).f1.f1))) (fun _ hk => hk.2) (.int .i64 ((rd_T27 l0 x12_2).f1.f2))) (fun _ hk => hk.2) (.slice ((rd_T27 l0 x12_2).f2).a ((rd_T27 l0 x12_2).f2).n ((rd_T27 l0 x12_2).f2).c)) (fun _ hk => trivial)⟩, ⟨by (with_reducible repeat (first | refine blk_drewN ?_ _ | refine blk_drew ?_ | refine blk_alloc ?_ _)); refine blk_put (cs := #[.int .i64 ((rd_T27 l0 x12_2).f0), .int .i64 ((rd_T27 l0 x12_2).f1.f0), .int .i64 ((rd_T27 l0 x12_2).f1.f1), .int .i64 ((rd_T27 l0 x12_2).f1.f2), .slice none 0 0]) ?_ 4 _ rfl; (with_reducible repeat (first | refine blk_drewN ?_ _ | refine blk_drew ?_ | refine blk_alloc ?_ _)); refine blk_put (cs := #[.int .i64 ((rd_T27 l0 x12_2).f0), .int .i64 ((rd_T27 l0 x12_2).f1.f0), .int .i64 ((rd_T27 l0 x12_2).f1.f1), .int .i64 0, .slice none 0 0]) ?_ 3 _ rfl; (with_reducible repeat (first | refine blk_drewN ?_ _ | refine blk_drew ?_ | refine blk_alloc ?_ _)); refine blk_put (cs := #[.int .i64 ((rd_T27 l0 x12_2).f0), .int .i64 ((rd_T27 l0 x12_2).f1.f0), .int .i64 0, .int .i64 0, .slice none 0 0]) ?_ 2 _ rfl; (with_reducible repeat (first | refine blk_drewN ?_ _ | refine blk_drew ?_ | refine blk_alloc ?_ _)); refine blk_put (cs := #[.int .i64 ((rd_T27 l0 x12_2).f0), .int .i64 0, .int .i64 0, .int .i64 0, .slice none 0 0]) ?_ 1 _ rfl; (with_reducible repeat (first | refine blk_drewN ?_ _ | refine blk_drew ?_ | refine blk_alloc ?_ _)); refine blk_put (cs := #[.int .i64 0, .int .i64 0, .int .i64 0, .int .i64 0, .slice none 0 0]) ?_ 0 _ rfl; (with_reducible repeat (first | refine blk_drewN ?_ _ | refine blk_drew ?_ | refine blk_alloc ?_ _)); exact BK387.out⟩, ⟨by repeat (first | (with_reducible first | exact HB.out | apply below_alloc | apply pw_below_drewN | apply below_drew1 | refine below_set ?_ GE387.out) | exact HB.out)⟩⟩
                          · rw [if_neg c28] at H
                            have c28b0 : decide (((rd_T27 l0 x12_2).f1.f1) < 0) = false := decide_eq_false c28
                            clear c28
                            by_cases c30 : ((rd_T27 l0 x12_2).f1.f1) ≥ (t378.length : Int)
                            · rw [if_pos c30] at H
                              have c30b0 : decide ((t378.length : Int) ≤ ((rd_T27 l0 x12_2).f1.f1)) = true := decide_eq_true c30
                              clear c30
                              have H' := Aside0.mk H
                              clear H
                              have hcz31_0 : w22.cell? ⟨gb387, 0, none⟩ = some (.int .i64 0) := (blk_cell BK387.out 0).trans rfl
                              have hcz31_1 : w22.cell? ⟨gb387, 1, none⟩ = some (.int .i64 0) := (blk_cell BK387.out 1).trans rfl
                              have hcz31_2 : w22.cell? ⟨gb387, 2, none⟩ = some (.int .i64 0) := (blk_cell BK387.out 2).trans rfl
                              have hcz31_3 : w22.cell? ⟨gb387, 3, none⟩ = some (.int .i64 0) := (blk_cell BK387.out 3).trans rfl
                              have hcz31_4 : w22.cell? ⟨gb387, 4, none⟩ = some (.slice none 0 0) := (blk_cell BK387.out 4).trans rfl
                              have hfz31_0 := blk_frozen BK387.out 0
                              have hfz31_1 := blk_frozen BK387.out 1
                              have hfz31_2 := blk_frozen BK387.out 2
                              have hfz31_3 := blk_frozen BK387.out 3
                              have hfz31_4 := blk_frozen BK387.out 4
                              go_wp2
                              repeat (go_quiet (fail); try go_wp2)
                              go_meet
                              case rel => exact ⟨_, (true), (by first | rfl | (simp; done) | (simp [*]; done)), H', ⟨by have := HK1.out; have := HK2.out; first | omega | exact Nat.le_refl _⟩, ⟨by (with_reducible repeat (first | apply Kd.R_alloc | apply Kd.R_drewN | apply Kd.R_drew)); exact Kd.R_mono (Kd.R_far (p := ⟨gb387, 4, none⟩) (Kd.R_far (p := ⟨gb387, 3, none⟩) (Kd.R_far (p := ⟨gb387, 2, none⟩) (Kd.R_far (p := ⟨gb387, 1, none⟩) (Kd.R_far (p := ⟨gb387, 0, none⟩) (Kd.R_types HO_7.out BK387.out (by decide)) (fun _ hk => hk.2) (.int .i64 ((rd_T27 l0 x12_2).f0))) (fun _ hk => hk.2) (.int .i64 ((rd_T27 l0 x12_2).f1.f0))) (fun _ hk => hk.2) (.int .i64 ((rd_T27 l0 x12_2).f1.f1))) (fun _ hk => hk.2) (.int .i64 ((rd_T27 l0 x12_2).f1.f2))) (fun _ hk => hk.2) (.slice ((rd_T27 l0 x12_2).f2).a ((rd_T27 l0 x12_2).f2).n ((rd_T27 l0 x12_2).f2).c)) (fun _ hk => trivial)⟩, ⟨by (with_reducible repeat (first | apply Kd.R_alloc | apply Kd.R_drewN | apply Kd.R_drew)); exact Kd.R_mono (Kd.R_far (p := ⟨gb387, 4, none⟩) (Kd.R_far (p := ⟨gb387, 3, none⟩) (Kd.R_far (p := ⟨gb387, 2, none⟩) (Kd.R_far (p := ⟨gb387, 1, none⟩) (Kd.R_far (p := ⟨gb387, 0, none⟩) (Kd.R_types HO_9.out BK387.out (by decide)) (fun _ hk => hk.2) (.int .i64 ((rd_T27 l0 x12_2).f0))) (fun _ hk => hk.2) (.int .i64 ((rd_T27 l0 x12_2).f1.f0))) (fun _ hk => hk.2) (.int .i64 ((rd_T27 l0 x12_2).f1.f1))) (fun _ hk => hk.2) (.int .i64 ((rd_T27 l0 x12_2).f1.f2))) (fun _ hk => hk.2) (.slice ((rd_T27 l0 x12_2).f2).a ((rd_T27 l0 x12_2).f2).n ((rd_T27 l0 x12_2).f2).c)) (fun _ hk => trivial)⟩, ⟨by (with_reducible repeat (first | refine blk_drewN ?_ _ | refine blk_drew ?_ | refine blk_alloc ?_ _)); refine blk_put (cs := #[.int .i64 ((rd_T27 l0 x12_2).f0), .int .i64 ((rd_T27 l0 x12_2).f1.f0), .int .i64 ((rd_T27 l0 x12_2).f1.f1), .int .i64 ((rd_T27 l0 x12_2).f1.f2), .slice none 0 0]) ?_ 4 _ rfl; (with_reducible repeat (first | refine blk_drewN ?_ _ | refine blk_drew ?_ | refine blk_alloc ?_ _)); refine blk_put (cs := #[.int .i64 ((rd_T27 l0 x12_2).f0), .int .i64 ((rd_T27 l0 x12_2).f1.f0), .int .i64 ((rd_T27 l0 x12_2).f1.f1), .int .i64 0, .slice none 0 0]) ?_ 3 _ rfl; (with_reducible repeat (first | refine blk_drewN ?_ _ | refine blk_drew ?_ | refine blk_alloc ?_ _)); refine blk_put (cs := #[.int .i64 ((rd_T27 l0 x12_2).f0), .int .i64 ((rd_T27 l0 x12_2).f1.f0), .int .i64 0, .int .i64 0, .slice none 0 0]) ?_ 2 _ rfl; (with_reducible repeat (first | refine blk_drewN ?_ _ | refine blk_drew ?_ | refine blk_alloc ?_ _)); refine blk_put (cs := #[.int .i64 ((rd_T27 l0 x12_2).f0), .int .i64 0, .int .i64 0, .int .i64 0, .slice none 0 0]) ?_ 1 _ rfl; (with_reducible repeat (first | refine blk_drewN ?_ _ | refine blk_drew ?_ | refine blk_alloc ?_ _)); refine blk_put (cs := #[.int .i64 0, .int .i64 0, .int .i64 0, .int .i64 0, .slice none 0 0]) ?_ 0 _ rfl; (with_reducible repeat (first | refine blk_drewN ?_ _ | refine blk_drew ?_ | refine blk_alloc ?_ _)); exact BK387.out⟩, ⟨by repeat (first | (with_reducible first | exact HB.out | apply below_alloc | apply pw_below_drewN | apply below_drew1 | refine below_set ?_ GE387.out) | exact HB.out)⟩⟩
                            · rw [if_neg c30] at H
                              have c30b0 : decide ((t378.length : Int) ≤ ((rd_T27 l0 x12_2).f1.f1)) = false := decide_eq_false c30
                              clear c30
                              by_cases c32 : ((rd_T27 l0 x12_2).f1.f2) < 1
                              · rw [if_pos c32] at H
                                have c32b0 : decide (((rd_T27 l0 x12_2).f1.f2) < 1) = true := decide_eq_true c32
                                clear c32
                                have H' := Aside0.mk H
                                clear H
                                have hcz33_0 : w22.cell? ⟨gb387, 0, none⟩ = some (.int .i64 0) := (blk_cell BK387.out 0).trans rfl
                                have hcz33_1 : w22.cell? ⟨gb387, 1, none⟩ = some (.int .i64 0) := (blk_cell BK387.out 1).trans rfl
                                have hcz33_2 : w22.cell? ⟨gb387, 2, none⟩ = some (.int .i64 0) := (blk_cell BK387.out 2).trans rfl
                                have hcz33_3 : w22.cell? ⟨gb387, 3, none⟩ = some (.int .i64 0) := (blk_cell BK387.out 3).trans rfl
                                have hcz33_4 : w22.cell? ⟨gb387, 4, none⟩ = some (.slice none 0 0) := (blk_cell BK387.out 4).trans rfl
                                have hfz33_0 := blk_frozen BK387.out 0
                                have hfz33_1 := blk_frozen BK387.out 1
                                have hfz33_2 := blk_frozen BK387.out 2
                                have hfz33_3 := blk_frozen BK387.out 3
                                have hfz33_4 := blk_frozen BK387.out 4
                                go_wp2
                                repeat (go_quiet (fail); try go_wp2)
                                go_meet
                                case rel => exact ⟨_, (true), (by first | rfl | (simp; done) | (simp [*]; done)), H', ⟨by have := HK1.out; have := HK2.out; first | omega | exact Nat.le_refl _⟩, ⟨by (with_reducible repeat (first | apply Kd.R_alloc | apply Kd.R_drewN | apply Kd.R_drew)); exact Kd.R_mono (Kd.R_far (p := ⟨gb387, 4, none⟩) (Kd.R_far (p := ⟨gb387, 3, none⟩) (Kd.R_far (p := ⟨gb387, 2, none⟩) (Kd.R_far (p := ⟨gb387, 1, none⟩) (Kd.R_far (p := ⟨gb387, 0, none⟩) (Kd.R_types HO_7.out BK387.out (by decide)) (fun _ hk => hk.2) (.int .i64 ((rd_T27 l0 x12_2).f0))) (fun _ hk => hk.2) (.int .i64 ((rd_T27 l0 x12_2).f1.f0))) (fun _ hk => hk.2) (.int .i64 ((rd_T27 l0 x12_2).f1.f1))) (fun _ hk => hk.2) (.int .i64 ((rd_T27 l0 x12_2).f1.f2))) (fun _ hk => hk.2) (.slice ((rd_T27 l0 x12_2).f2).a ((rd_T27 l0 x12_2).f2).n ((rd_T27 l0 x12_2).f2).c)) (fun _ hk => trivial)⟩, ⟨by (with_reducible repeat (first | apply Kd.R_alloc | apply Kd.R_drewN | apply Kd.R_drew)); exact Kd.R_mono (Kd.R_far (p := ⟨gb387, 4, none⟩) (Kd.R_far (p := ⟨gb387, 3, none⟩) (Kd.R_far (p := ⟨gb387, 2, none⟩) (Kd.R_far (p := ⟨gb387, 1, none⟩) (Kd.R_far (p := ⟨gb387, 0, none⟩) (Kd.R_types HO_9.out BK387.out (by decide)) (fun _ hk => hk.2) (.int .i64 ((rd_T27 l0 x12_2).f0))) (fun _ hk => hk.2) (.int .i64 ((rd_T27 l0 x12_2).f1.f0))) (fun _ hk => hk.2) (.int .i64 ((rd_T27 l0 x12_2).f1.f1))) (fun _ hk => hk.2) (.int .i64 ((rd_T27 l0 x12_2).f1.f2))) (fun _ hk => hk.2) (.slice ((rd_T27 l0 x12_2).f2).a ((rd_T27 l0 x12_2).f2).n ((rd_T27 l0 x12_2).f2).c)) (fun _ hk => trivial)⟩, ⟨by (with_reducible repeat (first | refine blk_drewN ?_ _ | refine blk_drew ?_ | refine blk_alloc ?_ _)); refine blk_put (cs := #[.int .i64 ((rd_T27 l0 x12_2).f0), .int .i64 ((rd_T27 l0 x12_2).f1.f0), .int .i64 ((rd_T27 l0 x12_2).f1.f1), .int .i64 ((rd_T27 l0 x12_2).f1.f2), .slice none 0 0]) ?_ 4 _ rfl; (with_reducible repeat (first | refine blk_drewN ?_ _ | refine blk_drew ?_ | refine blk_alloc ?_ _)); refine blk_put (cs := #[.int .i64 ((rd_T27 l0 x12_2).f0), .int .i64 ((rd_T27 l0 x12_2).f1.f0), .int .i64 ((rd_T27 l0 x12_2).f1.f1), .int .i64 0, .slice none 0 0]) ?_ 3 _ rfl; (with_reducible repeat (first | refine blk_drewN ?_ _ | refine blk_drew ?_ | refine blk_alloc ?_ _)); refine blk_put (cs := #[.int .i64 ((rd_T27 l0 x12_2).f0), .int .i64 ((rd_T27 l0 x12_2).f1.f0), .int .i64 0, .int .i64 0, .slice none 0 0]) ?_ 2 _ rfl; (with_reducible repeat (first | refine blk_drewN ?_ _ | refine blk_drew ?_ | refine blk_alloc ?_ _)); refine blk_put (cs := #[.int .i64 ((rd_T27 l0 x12_2).f0), .int .i64 0, .int .i64 0, .int .i64 0, .slice none 0 0]) ?_ 1 _ rfl; (with_reducible repeat (first | refine blk_drewN ?_ _ | refine blk_drew ?_ | refine blk_alloc ?_ _)); refine blk_put (cs := #[.int .i64 0, .int .i64 0, .int .i64 0, .int .i64 0, .slice none 0 0]) ?_ 0 _ rfl; (with_reducible repeat (first | refine blk_drewN ?_ _ | refine blk_drew ?_ | refine blk_alloc ?_ _)); exact BK387.out⟩, ⟨by repeat (first | (with_reducible first | exact HB.out | apply below_alloc | apply pw_below_drewN | apply below_drew1 | refine below_set ?_ GE387.out) | exact HB.out)⟩⟩
                              · rw [if_neg c32] at H
                                have c32b0 : decide (((rd_T27 l0 x12_2).f1.f2) < 1) = false := decide_eq_false c32
                                clear c32
                                by_cases c34 : ((rd_T27 l0 x12_2).f1.f2) > 1125899906842624
                                · rw [if_pos c34] at H
                                  have c34b0 : decide (1125899906842624 < ((rd_T27 l0 x12_2).f1.f2)) = true := decide_eq_true c34
                                  clear c34
                                  have H' := Aside0.mk H
                                  clear H
                                  have hcz35_0 : w22.cell? ⟨gb387, 0, none⟩ = some (.int .i64 0) := (blk_cell BK387.out 0).trans rfl
                                  have hcz35_1 : w22.cell? ⟨gb387, 1, none⟩ = some (.int .i64 0) := (blk_cell BK387.out 1).trans rfl
                                  have hcz35_2 : w22.cell? ⟨gb387, 2, none⟩ = some (.int .i64 0) := (blk_cell BK387.out 2).trans rfl
                                  have hcz35_3 : w22.cell? ⟨gb387, 3, none⟩ = some (.int .i64 0) := (blk_cell BK387.out 3).trans rfl
                                  have hcz35_4 : w22.cell? ⟨gb387, 4, none⟩ = some (.slice none 0 0) := (blk_cell BK387.out 4).trans rfl
                                  have hfz35_0 := blk_frozen BK387.out 0
                                  have hfz35_1 := blk_frozen BK387.out 1
                                  have hfz35_2 := blk_frozen BK387.out 2
                                  have hfz35_3 := blk_frozen BK387.out 3
                                  have hfz35_4 := blk_frozen BK387.out 4
                                  go_wp2
                                  repeat (go_quiet (fail); try go_wp2)
                                  go_meet
                                  case rel => exact ⟨_, (true), (by first | rfl | (simp; done) | (simp [*]; done)), H', ⟨by have := HK1.out; have := HK2.out; first | omega | exact Nat.le_refl _⟩, ⟨by (with_reducible repeat (first | apply Kd.R_alloc | apply Kd.R_drewN | apply Kd.R_drew)); exact Kd.R_mono (Kd.R_far (p := ⟨gb387, 4, none⟩) (Kd.R_far (p := ⟨gb387, 3, none⟩) (Kd.R_far (p := ⟨gb387, 2, none⟩) (Kd.R_far (p := ⟨gb387, 1, none⟩) (Kd.R_far (p := ⟨gb387, 0, none⟩) (Kd.R_types HO_7.out BK387.out (by decide)) (fun _ hk => hk.2) (.int .i64 ((rd_T27 l0 x12_2).f0))) (fun _ hk => hk.2) (.int .i64 ((rd_T27 l0 x12_2).f1.f0))) (fun _ hk => hk.2) (.int .i64 ((rd_T27 l0 x12_2).f1.f1))) (fun _ hk => hk.2) (.int .i64 ((rd_T27 l0 x12_2).f1.f2))) (fun _ hk => hk.2) (.slice ((rd_T27 l0 x12_2).f2).a ((rd_T27 l0 x12_2).f2).n ((rd_T27 l0 x12_2).f2).c)) (fun _ hk => trivial)⟩, ⟨by (with_reducible repeat (first | apply Kd.R_alloc | apply Kd.R_drewN | apply Kd.R_drew)); exact Kd.R_mono (Kd.R_far (p := ⟨gb387, 4, none⟩) (Kd.R_far (p := ⟨gb387, 3, none⟩) (Kd.R_far (p := ⟨gb387, 2, none⟩) (Kd.R_far (p := ⟨gb387, 1, none⟩) (Kd.R_far (p := ⟨gb387, 0, none⟩) (Kd.R_types HO_9.out BK387.out (by decide)) (fun _ hk => hk.2) (.int .i64 ((rd_T27 l0 x12_2).f0))) (fun _ hk => hk.2) (.int .i64 ((rd_T27 l0 x12_2).f1.f0))) (fun _ hk => hk.2) (.int .i64 ((rd_T27 l0 x12_2).f1.f1))) (fun _ hk => hk.2) (.int .i64 ((rd_T27 l0 x12_2).f1.f2))) (fun _ hk => hk.2) (.slice ((rd_T27 l0 x12_2).f2).a ((rd_T27 l0 x12_2).f2).n ((rd_T27 l0 x12_2).f2).c)) (fun _ hk => trivial)⟩, ⟨by (with_reducible repeat (first | refine blk_drewN ?_ _ | refine blk_drew ?_ | refine blk_alloc ?_ _)); refine blk_put (cs := #[.int .i64 ((rd_T27 l0 x12_2).f0), .int .i64 ((rd_T27 l0 x12_2).f1.f0), .int .i64 ((rd_T27 l0 x12_2).f1.f1), .int .i64 ((rd_T27 l0 x12_2).f1.f2), .slice none 0 0]) ?_ 4 _ rfl; (with_reducible repeat (first | refine blk_drewN ?_ _ | refine blk_drew ?_ | refine blk_alloc ?_ _)); refine blk_put (cs := #[.int .i64 ((rd_T27 l0 x12_2).f0), .int .i64 ((rd_T27 l0 x12_2).f1.f0), .int .i64 ((rd_T27 l0 x12_2).f1.f1), .int .i64 0, .slice none 0 0]) ?_ 3 _ rfl; (with_reducible repeat (first | refine blk_drewN ?_ _ | refine blk_drew ?_ | refine blk_alloc ?_ _)); refine blk_put (cs := #[.int .i64 ((rd_T27 l0 x12_2).f0), .int .i64 ((rd_T27 l0 x12_2).f1.f0), .int .i64 0, .int .i64 0, .slice none 0 0]) ?_ 2 _ rfl; (with_reducible repeat (first | refine blk_drewN ?_ _ | refine blk_drew ?_ | refine blk_alloc ?_ _)); refine blk_put (cs := #[.int .i64 ((rd_T27 l0 x12_2).f0), .int .i64 0, .int .i64 0, .int .i64 0, .slice none 0 0]) ?_ 1 _ rfl; (with_reducible repeat (first | refine blk_drewN ?_ _ | refine blk_drew ?_ | refine blk_alloc ?_ _)); refine blk_put (cs := #[.int .i64 0, .int .i64 0, .int .i64 0, .int .i64 0, .slice none 0 0]) ?_ 0 _ rfl; (with_reducible repeat (first | refine blk_drewN ?_ _ | refine blk_drew ?_ | refine blk_alloc ?_ _)); exact BK387.out⟩, ⟨by repeat (first | (with_reducible first | exact HB.out | apply below_alloc | apply pw_below_drewN | apply below_drew1 | refine below_set ?_ GE387.out) | exact HB.out)⟩⟩
                                · rw [if_neg c34] at H
                                  have c34b0 : decide (1125899906842624 < ((rd_T27 l0 x12_2).f1.f2)) = false := decide_eq_false c34
                                  clear c34
                                  have H' := Aside0.mk H
                                  clear H
                                  have hcz36_0 : w22.cell? ⟨gb387, 0, none⟩ = some (.int .i64 0) := (blk_cell BK387.out 0).trans rfl
                                  have hcz36_1 : w22.cell? ⟨gb387, 1, none⟩ = some (.int .i64 0) := (blk_cell BK387.out 1).trans rfl
                                  have hcz36_2 : w22.cell? ⟨gb387, 2, none⟩ = some (.int .i64 0) := (blk_cell BK387.out 2).trans rfl
                                  have hcz36_3 : w22.cell? ⟨gb387, 3, none⟩ = some (.int .i64 0) := (blk_cell BK387.out 3).trans rfl
                                  have hcz36_4 : w22.cell? ⟨gb387, 4, none⟩ = some (.slice none 0 0) := (blk_cell BK387.out 4).trans rfl
                                  have hfz36_0 := blk_frozen BK387.out 0
                                  have hfz36_1 := blk_frozen BK387.out 1
                                  have hfz36_2 := blk_frozen BK387.out 2
                                  have hfz36_3 := blk_frozen BK387.out 3
                                  have hfz36_4 := blk_frozen BK387.out 4
                                  go_wp2
                                  repeat (go_quiet (fail); try go_wp2)
                                  go_meet
                                  case rel => exact ⟨_, (decide (((rd_T27 l0 x12_2).f0) < 0)), (by first | rfl | (simp; done) | (simp [*]; done)), H', ⟨by have := HK1.out; have := HK2.out; first | omega | exact Nat.le_refl _⟩, ⟨by (with_reducible repeat (first | apply Kd.R_alloc | apply Kd.R_drewN | apply Kd.R_drew)); exact Kd.R_mono (Kd.R_far (p := ⟨gb387, 4, none⟩) (Kd.R_far (p := ⟨gb387, 3, none⟩) (Kd.R_far (p := ⟨gb387, 2, none⟩) (Kd.R_far (p := ⟨gb387, 1, none⟩) (Kd.R_far (p := ⟨gb387, 0, none⟩) (Kd.R_types HO_7.out BK387.out (by decide)) (fun _ hk => hk.2) (.int .i64 ((rd_T27 l0 x12_2).f0))) (fun _ hk => hk.2) (.int .i64 ((rd_T27 l0 x12_2).f1.f0))) (fun _ hk => hk.2) (.int .i64 ((rd_T27 l0 x12_2).f1.f1))) (fun _ hk => hk.2) (.int .i64 ((rd_T27 l0 x12_2).f1.f2))) (fun _ hk => hk.2) (.slice ((rd_T27 l0 x12_2).f2).a ((rd_T27 l0 x12_2).f2).n ((rd_T27 l0 x12_2).f2).c)) (fun _ hk => trivial)⟩, ⟨by (with_reducible repeat (first | apply Kd.R_alloc | apply Kd.R_drewN | apply Kd.R_drew)); exact Kd.R_mono (Kd.R_far (p := ⟨gb387, 4, none⟩) (Kd.R_far (p := ⟨gb387, 3, none⟩) (Kd.R_far (p := ⟨gb387, 2, none⟩) (Kd.R_far (p := ⟨gb387, 1, none⟩) (Kd.R_far (p := ⟨gb387, 0, none⟩) (Kd.R_types HO_9.out BK387.out (by decide)) (fun _ hk => hk.2) (.int .i64 ((rd_T27 l0 x12_2).f0))) (fun _ hk => hk.2) (.int .i64 ((rd_T27 l0 x12_2).f1.f0))) (fun _ hk => hk.2) (.int .i64 ((rd_T27 l0 x12_2).f1.f1))) (fun _ hk => hk.2) (.int .i64 ((rd_T27 l0 x12_2).f1.f2))) (fun _ hk => hk.2) (.slice ((rd_T27 l0 x12_2).f2).a ((rd_T27 l0 x12_2).f2).n ((rd_T27 l0 x12_2).f2).c)) (fun _ hk => trivial)⟩, ⟨by (with_reducible repeat (first | refine blk_drewN ?_ _ | refine blk_drew ?_ | refine blk_alloc ?_ _)); refine blk_put (cs := #[.int .i64 ((rd_T27 l0 x12_2).f0), .int .i64 ((rd_T27 l0 x12_2).f1.f0), .int .i64 ((rd_T27 l0 x12_2).f1.f1), .int .i64 ((rd_T27 l0 x12_2).f1.f2), .slice none 0 0]) ?_ 4 _ rfl; (with_reducible repeat (first | refine blk_drewN ?_ _ | refine blk_drew ?_ | refine blk_alloc ?_ _)); refine blk_put (cs := #[.int .i64 ((rd_T27 l0 x12_2).f0), .int .i64 ((rd_T27 l0 x12_2).f1.f0), .int .i64 ((rd_T27 l0 x12_2).f1.f1), .int .i64 0, .slice none 0 0]) ?_ 3 _ rfl; (with_reducible repeat (first | refine blk_drewN ?_ _ | refine blk_drew ?_ | refine blk_alloc ?_ _)); refine blk_put (cs := #[.int .i64 ((rd_T27 l0 x12_2).f0), .int .i64 ((rd_T27 l0 x12_2).f1.f0), .int .i64 0, .int .i64 0, .slice none 0 0]) ?_ 2 _ rfl; (with_reducible repeat (first | refine blk_drewN ?_ _ | refine blk_drew ?_ | refine blk_alloc ?_ _)); refine blk_put (cs := #[.int .i64 ((rd_T27 l0 x12_2).f0), .int .i64 0, .int .i64 0, .int .i64 0, .slice none 0 0]) ?_ 1 _ rfl; (with_reducible repeat (first | refine blk_drewN ?_ _ | refine blk_drew ?_ | refine blk_alloc ?_ _)); refine blk_put (cs := #[.int .i64 0, .int .i64 0, .int .i64 0, .int .i64 0, .slice none 0 0]) ?_ 0 _ rfl; (with_reducible repeat (first | refine blk_drewN ?_ _ | refine blk_drew ?_ | refine blk_alloc ?_ _)); exact BK387.out⟩, ⟨by repeat (first | (with_reducible first | exact HB.out | apply below_alloc | apply pw_below_drewN | apply below_drew1 | refine below_set ?_ GE387.out) | exact HB.out)⟩⟩
                    case rest =>
                      clear HC21
                      try clear c1
                      try clear c2
                      try clear p2
                      try clear c3
                      try clear p3
                      try clear q3
                      try clear hx3
                      try clear c4
                      try clear c4b0
                      try clear c4b1
                      try clear p6
                      try clear c7
                      try clear c13
                      try clear c13b0
                      try clear c14
                      try clear c14b0
                      try clear c15
                      try clear c15b0
                      try clear c19
                      try clear c19b0
                      try clear c20
                      try clear c20b0
                      try clear c24
                      try clear c24b0
                      try clear c26
                      try clear c26b0
                      try clear c28
                      try clear c28b0
                      try clear c30
                      try clear c30b0
                      try clear c32
                      try clear c32b0
                      try clear c34
                      try clear c34b0
                      try clear hcz23_0
                      try clear hcz23_1
                      try clear hcz23_2
                      try clear hcz23_3
                      try clear hcz23_4
                      try clear hcz25_0
                      try clear hcz25_1
                      try clear hcz25_2
                      try clear hcz25_3
                      try clear hcz25_4
                      try clear hcz27_0
                      try clear hcz27_1
                      try clear hcz27_2
                      try clear hcz27_3
                      try clear hcz27_4
                      try clear hcz29_0
                      try clear hcz29_1
                      try clear hcz29_2
                      try clear hcz29_3
                      try clear hcz29_4
                      try clear hcz31_0
                      try clear hcz31_1
                      try clear hcz31_2
                      try clear hcz31_3
                      try clear hcz31_4
                      try clear hcz33_0
                      try clear hcz33_1
                      try clear hcz33_2
                      try clear hcz33_3
                      try clear hcz33_4
                      try clear hcz35_0
                      try clear hcz35_1
                      try clear hcz35_2
                      try clear hcz35_3
                      try clear hcz35_4
                      try clear hcz36_0
                      try clear hcz36_1
                      try clear hcz36_2
                      try clear hcz36_3
                      try clear hcz36_4
                      try clear hfz23_0
                      try clear hfz23_1
                      try clear hfz23_2
                      try clear hfz23_3
                      try clear hfz23_4
                      try clear hfz25_0
                      try clear hfz25_1
                      try clear hfz25_2
                      try clear hfz25_3
                      try clear hfz25_4
                      try clear hfz27_0
                      try clear hfz27_1
                      try clear hfz27_2
                      try clear hfz27_3
                      try clear hfz27_4
                      try clear hfz29_0
                      try clear hfz29_1
                      try clear hfz29_2
                      try clear hfz29_3
                      try clear hfz29_4
                      try clear hfz31_0
                      try clear hfz31_1
                      try clear hfz31_2
                      try clear hfz31_3
                      try clear hfz31_4
                      try clear hfz33_0
                      try clear hfz33_1
                      try clear hfz33_2
                      try clear hfz33_3
                      try clear hfz33_4
                      try clear hfz35_0
                      try clear hfz35_1
                      try clear hfz35_2
                      try clear hfz35_3
                      try clear hfz35_4
                      try clear hfz36_0
                      try clear hfz36_1
                      try clear hfz36_2
                      try clear hfz36_3
                      try clear hfz36_4
                      try clear hx385_0
                      try clear hx385_1
                      try clear hx385_2
                      try clear hx386_0
                      try clear hx386_1
                      try clear hx386_2
                      try clear hx386_3
                      try clear hx386_4
                      try clear p2
                      try clear p3
                      try clear p385
                      try clear p386
                      try clear p6
                      try clear q3
                      try clear q385
                      try clear q386
                      obtain ⟨kq, x100_20, rfl, HA, HJ20, HO_7, HO_9, BK387, HB⟩ := hcut
                      cases kq with
                      | zero => exact absurd HA.out (by simp [strakelaw18_ReplayParts.j2])
                      | succ kj20 =>
                        have H := HA.out
                        clear HA
                        simp only [strakelaw18_ReplayParts.j2] at H
                        by_cases c37 : x100_20 = true
                        · subst c37
                          have H1 : (strakelaw18_ReplayParts.l1 kj20 l0 t376 t378 t382 x10_2 (wrap64 (x12_2 + 1))) = some r := by rw [if_pos rfl] at H; exact H
                          clear H
                          have H := H1
                          clear H1
                          have H' := Aside0.mk H
                          clear H
                          go_wp2
                          repeat (go_quiet (fail); try go_wp2)
                          go_roundg kj20
                          case measure => have := HK1.out; have := HK2.out; have := HJ20.out; omega
                          case rel => exact ⟨(x10_2), (wrap64 (x12_2 + 1)), (by first | rfl | (simp; done) | (simp [*]; done)), (by first | rfl | (simp; done) | (simp [*]; done)), H', ⟨by have := HK1.out; have := HK2.out; have := HJ20.out; omega⟩, ⟨by (with_reducible repeat (first | apply Kd.R_alloc | apply Kd.R_drewN | apply Kd.R_drew)); exact HO_7.out⟩, ⟨by (with_reducible repeat (first | apply Kd.R_alloc | apply Kd.R_drewN | apply Kd.R_drew)); exact HO_9.out⟩, ⟨by repeat (first | (with_reducible first | exact HB.out | apply below_alloc | apply pw_below_drewN | apply below_drew1 | refine below_set ?_ GE387.out) | exact HB.out)⟩⟩
                        · replace c37 := Bool.eq_false_iff.mpr c37
                          subst c37
                          have H1 : (if 0 ≤ ((rd_T27 l0 x12_2).f1.f1) then (if ((rd_T27 l0 x12_2).f1.f1) < (t378.length : Int) then (strakelaw18_ReplayParts.l2 kj20 l0 t376 t378 t382 (wrap64 (x10_2 - 1)) x12_2 (((rd_T33 t378 ((rd_T27 l0 x12_2).f1.f1)).f0) == ((rd_T27 l0 x12_2).f0)) false 0 ((rd_T27 l0 x12_2).f0) ((rd_T27 l0 x12_2).f1.f0) ((rd_T27 l0 x12_2).f1.f1) ((rd_T27 l0 x12_2).f1.f2) ((rd_T27 l0 x12_2).f2)) else (none)) else (none)) = some r := by rw [if_neg (show ¬ (false = true) by decide)] at H; exact H
                          clear H
                          have H := H1
                          clear H1
                          by_cases c38 : 0 ≤ ((rd_T27 l0 x12_2).f1.f1)
                          · rw [if_pos c38] at H
                            have c38b0 : decide (0 ≤ ((rd_T27 l0 x12_2).f1.f1)) = true := decide_eq_true c38
                            clear c38
                            by_cases c39 : ((rd_T27 l0 x12_2).f1.f1) < (t378.length : Int)
                            · rw [if_pos c39] at H
                              have c39b0 : decide (((rd_T27 l0 x12_2).f1.f1) < (t378.length : Int)) = true := decide_eq_true c39
                              clear c39
                              have H' := Aside0.mk H
                              clear H
                              have hcz40_0 : wc.cell? ⟨gb387, 0, none⟩ = some (.int .i64 ((rd_T27 l0 x12_2).f0)) := (blk_cell BK387.out 0).trans rfl
                              have hcz40_1 : wc.cell? ⟨gb387, 1, none⟩ = some (.int .i64 ((rd_T27 l0 x12_2).f1.f0)) := (blk_cell BK387.out 1).trans rfl
                              have hcz40_2 : wc.cell? ⟨gb387, 2, none⟩ = some (.int .i64 ((rd_T27 l0 x12_2).f1.f1)) := (blk_cell BK387.out 2).trans rfl
                              have hcz40_3 : wc.cell? ⟨gb387, 3, none⟩ = some (.int .i64 ((rd_T27 l0 x12_2).f1.f2)) := (blk_cell BK387.out 3).trans rfl
                              have hcz40_4 : wc.cell? ⟨gb387, 4, none⟩ = some (.slice ((rd_T27 l0 x12_2).f2).a ((rd_T27 l0 x12_2).f2).n ((rd_T27 l0 x12_2).f2).c) := (blk_cell BK387.out 4).trans rfl
                              have hfz40_0 := blk_frozen BK387.out 0
                              have hfz40_1 := blk_frozen BK387.out 1
                              have hfz40_2 := blk_frozen BK387.out 2
                              have hfz40_3 := blk_frozen BK387.out 3
                              have hfz40_4 := blk_frozen BK387.out 4
                              have p388 : 0 ≤ (((rd_T27 l0 x12_2).f1.f1) : Int) := of_decide_eq_true (by first | (with_reducible assumption) | assumption)
                              have q388 : ((rd_T27 l0 x12_2).f1.f1) < (t378.length : Int) := of_decide_eq_true (by first | (with_reducible assumption) | assumption)
                              obtain ⟨ad388, e388, hx388_0, hx388_1, hx388_2⟩ := at_T33 (Kd.R_reads' HO_7.out).2.2 ((rd_T27 l0 x12_2).f1.f1) p388 q388
                              cases e388
                              replace p388 := eq_true p388
                              replace q388 := eq_true q388
                              go_wp2
                              repeat (go_quiet (fail); try go_wp2)
                              go_loopg [15, 16] kj20 (fun kq v15 v16 w' => ∃ (x15_4 : Bool) (x16_4 : Int), v15 = .bool x15_4 ∧ v16 = .int .i64 x16_4 ∧ Aside0 (strakelaw18_ReplayParts.l2 kq l0 t376 t378 t382 (wrap64 (x10_2 - 1)) x12_2 (((rd_T33 t378 ((rd_T27 l0 x12_2).f1.f1)).f0) == ((rd_T27 l0 x12_2).f0)) x15_4 x16_4 ((rd_T27 l0 x12_2).f0) ((rd_T27 l0 x12_2).f1.f0) ((rd_T27 l0 x12_2).f1.f1) ((rd_T27 l0 x12_2).f1.f2) ((rd_T27 l0 x12_2).f2) = some r) ∧ Aside0 (kq ≤ kj20) ∧ Aside0 (Kd.R k33 33 w' w.heap.size (fun _ => True) (.slice (some ad388) t378.length co18) t378) ∧ Aside0 (Kd.R (Kd.int .i64) 3 w' w.heap.size (fun _ => True) v383 t382) ∧ Aside0 (w'.heap[gb387]? = some (.cells #[.int .i64 ((rd_T27 l0 x12_2).f0), .int .i64 ((rd_T27 l0 x12_2).f1.f0), .int .i64 ((rd_T27 l0 x12_2).f1.f1), .int .i64 ((rd_T27 l0 x12_2).f1.f2), .slice ((rd_T27 l0 x12_2).f2).a ((rd_T27 l0 x12_2).f2).n ((rd_T27 l0 x12_2).f2).c] 27 (0, 0))) ∧ Aside0 (Below w.heap.size w w'))
                              case atStart => exact ⟨(false), (0), (by first | rfl | (simp; done) | (simp [*]; done)), (by first | rfl | (simp; done) | (simp [*]; done)), H', ⟨Nat.le_refl _⟩, ⟨by (with_reducible repeat (first | apply Kd.R_alloc | apply Kd.R_drewN | apply Kd.R_drew)); exact HO_7.out⟩, ⟨by (with_reducible repeat (first | apply Kd.R_alloc | apply Kd.R_drewN | apply Kd.R_drew)); exact HO_9.out⟩, ⟨by (with_reducible repeat (first | refine blk_drewN ?_ _ | refine blk_drew ?_ | refine blk_alloc ?_ _)); exact BK387.out⟩, ⟨by repeat (first | (with_reducible first | exact HB.out | apply below_alloc | apply pw_below_drewN | apply below_drew1 | refine below_set ?_ GE387.out) | exact HB.out)⟩⟩
                              case round =>
                                clear H'
                                try clear c1
                                try clear c2
                                try clear p2
                                try clear c3
                                try clear p3
                                try clear q3
                                try clear hx3
                                try clear c4
                                try clear c4b0
                                try clear c4b1
                                try clear p6
                                try clear c7
                                try clear c13
                                try clear c13b0
                                try clear c14
                                try clear c14b0
                                try clear c15
                                try clear c15b0
                                try clear c19
                                try clear c19b0
                                try clear c20
                                try clear c20b0
                                try clear c24
                                try clear c24b0
                                try clear c26
                                try clear c26b0
                                try clear c28
                                try clear c28b0
                                try clear c30
                                try clear c30b0
                                try clear c32
                                try clear c32b0
                                try clear c34
                                try clear c34b0
                                try clear c37
                                try clear c38
                                try clear c38b0
                                try clear p38
                                try clear q38
                                try clear hx38
                                try clear c39
                                try clear c39b0
                                try clear hcz23_0
                                try clear hcz23_1
                                try clear hcz23_2
                                try clear hcz23_3
                                try clear hcz23_4
                                try clear hcz25_0
                                try clear hcz25_1
                                try clear hcz25_2
                                try clear hcz25_3
                                try clear hcz25_4
                                try clear hcz27_0
                                try clear hcz27_1
                                try clear hcz27_2
                                try clear hcz27_3
                                try clear hcz27_4
                                try clear hcz29_0
                                try clear hcz29_1
                                try clear hcz29_2
                                try clear hcz29_3
                                try clear hcz29_4
                                try clear hcz31_0
                                try clear hcz31_1
                                try clear hcz31_2
                                try clear hcz31_3
                                try clear hcz31_4
                                try clear hcz33_0
                                try clear hcz33_1
                                try clear hcz33_2
                                try clear hcz33_3
                                try clear hcz33_4
                                try clear hcz35_0
                                try clear hcz35_1
                                try clear hcz35_2
                                try clear hcz35_3
                                try clear hcz35_4
                                try clear hcz36_0
                                try clear hcz36_1
                                try clear hcz36_2
                                try clear hcz36_3
                                try clear hcz36_4
                                try clear hcz40_0
                                try clear hcz40_1
                                try clear hcz40_2
                                try clear hcz40_3
                                try clear hcz40_4
                                try clear hfz23_0
                                try clear hfz23_1
                                try clear hfz23_2
                                try clear hfz23_3
                                try clear hfz23_4
                                try clear hfz25_0
                                try clear hfz25_1
                                try clear hfz25_2
                                try clear hfz25_3
                                try clear hfz25_4
                                try clear hfz27_0
                                try clear hfz27_1
                                try clear hfz27_2
                                try clear hfz27_3
                                try clear hfz27_4
                                try clear hfz29_0
                                try clear hfz29_1
                                try clear hfz29_2
                                try clear hfz29_3
                                try clear hfz29_4
                                try clear hfz31_0
                                try clear hfz31_1
                                try clear hfz31_2
                                try clear hfz31_3
                                try clear hfz31_4
                                try clear hfz33_0
                                try clear hfz33_1
                                try clear hfz33_2
                                try clear hfz33_3
                                try clear hfz33_4
                                try clear hfz35_0
                                try clear hfz35_1
                                try clear hfz35_2
                                try clear hfz35_3
                                try clear hfz35_4
                                try clear hfz36_0
                                try clear hfz36_1
                                try clear hfz36_2
                                try clear hfz36_3
                                try clear hfz36_4
                                try clear hfz40_0
                                try clear hfz40_1
                                try clear hfz40_2
                                try clear hfz40_3
                                try clear hfz40_4
                                try clear hx385_0
                                try clear hx385_1
                                try clear hx385_2
                                try clear hx386_0
                                try clear hx386_1
                                try clear hx386_2
                                try clear hx386_3
                                try clear hx386_4
                                try clear hx388_0
                                try clear hx388_1
                                try clear hx388_2
                                try clear p2
                                try clear p3
                                try clear p385
                                try clear p386
                                try clear p388
                                try clear p6
                                try clear q3
                                try clear q385
                                try clear q386
                                try clear q388
                                obtain ⟨x15_4, x16_4, rfl, rfl, HA, HK4, HO_7, HO_9, BK387, HB⟩ := hrel
                                cases gk with
                                | zero => exact absurd HA.out (by simp [strakelaw18_ReplayParts.l2])
                                | succ k4 =>
                                  have H := HA.out
                                  clear HA
                                  simp only [strakelaw18_ReplayParts.l2] at H
                                  by_cases c41 : x16_4 < (t382.length : Int)
                                  · rw [if_pos c41] at H
                                    have c41b0 : decide (x16_4 < (t382.length : Int)) = true := decide_eq_true c41
                                    clear c41
                                    by_cases c42 : x15_4 = true
                                    · subst c42
                                      have H1 : (strakelaw18_ReplayParts.l2 k4 l0 t376 t378 t382 (wrap64 (x10_2 - 1)) x12_2 (((rd_T33 t378 ((rd_T27 l0 x12_2).f1.f1)).f0) == ((rd_T27 l0 x12_2).f0)) true (wrap64 (x16_4 + 1)) ((rd_T27 l0 x12_2).f0) ((rd_T27 l0 x12_2).f1.f0) ((rd_T27 l0 x12_2).f1.f1) ((rd_T27 l0 x12_2).f1.f2) ((rd_T27 l0 x12_2).f2)) = some r := by rw [if_pos rfl] at H; exact H
                                      clear H
                                      have H := H1
                                      clear H1
                                      have H' := Aside0.mk H
                                      clear H
                                      obtain ⟨Ao43, co43, eo43⟩ := Kd.R_slice HO_9.out
                                      subst eo43
                                      go_wp2
                                      repeat (go_quiet (fail); try go_wp2)
                                      go_roundg k4
                                      case measure => have := HK1.out; have := HK2.out; have := HJ20.out; have := HK4.out; omega
                                      case rel => exact ⟨(true), (wrap64 (x16_4 + 1)), (by first | rfl | (simp; done) | (simp [*]; done)), (by first | rfl | (simp; done) | (simp [*]; done)), H', ⟨by have := HK1.out; have := HK2.out; have := HJ20.out; have := HK4.out; omega⟩, ⟨by (with_reducible repeat (first | apply Kd.R_alloc | apply Kd.R_drewN | apply Kd.R_drew)); exact HO_7.out⟩, ⟨by (with_reducible repeat (first | apply Kd.R_alloc | apply Kd.R_drewN | apply Kd.R_drew)); exact HO_9.out⟩, ⟨by (with_reducible repeat (first | refine blk_drewN ?_ _ | refine blk_drew ?_ | refine blk_alloc ?_ _)); exact BK387.out⟩, ⟨by repeat (first | (with_reducible first | exact HB.out | apply below_alloc | apply pw_below_drewN | apply below_drew1 | refine below_set ?_ GE387.out) | exact HB.out)⟩⟩
                                    · replace c42 := Bool.eq_false_iff.mpr c42
                                      subst c42
                                      have H1 : (if 0 ≤ x16_4 then (strakelaw18_ReplayParts.l2 k4 l0 t376 t378 t382 (wrap64 (x10_2 - 1)) x12_2 (((rd_T33 t378 ((rd_T27 l0 x12_2).f1.f1)).f0) == ((rd_T27 l0 x12_2).f0)) ((rd t382 x16_4) == ((rd_T27 l0 x12_2).f0)) (wrap64 (x16_4 + 1)) ((rd_T27 l0 x12_2).f0) ((rd_T27 l0 x12_2).f1.f0) ((rd_T27 l0 x12_2).f1.f1) ((rd_T27 l0 x12_2).f1.f2) ((rd_T27 l0 x12_2).f2)) else (none)) = some r := by rw [if_neg (show ¬ (false = true) by decide)] at H; exact H
                                      clear H
                                      have H := H1
                                      clear H1
                                      by_cases c44 : 0 ≤ x16_4
                                      · rw [if_pos c44] at H
                                        have c44b0 : decide (0 ≤ x16_4) = true := decide_eq_true c44
                                        clear c44
                                        have H' := Aside0.mk H
                                        clear H
                                        obtain ⟨Ao45, co45, eo45⟩ := Kd.R_slice HO_9.out
                                        subst eo45
                                        have p389 : 0 ≤ (x16_4 : Int) := of_decide_eq_true (by first | (with_reducible assumption) | assumption)
                                        have q389 : x16_4 < (t382.length : Int) := of_decide_eq_true (by first | (with_reducible assumption) | assumption)
                                        obtain ⟨ad389, e389, hx389_0⟩ := Kd.at_int (Kd.R_reads' HO_9.out).2.2 x16_4 p389 q389
                                        cases e389
                                        replace p389 := eq_true p389
                                        replace q389 := eq_true q389
                                        have hcz46_0 : wr.cell? ⟨gb387, 0, none⟩ = some (.int .i64 ((rd_T27 l0 x12_2).f0)) := (blk_cell BK387.out 0).trans rfl
                                        have hcz46_1 : wr.cell? ⟨gb387, 1, none⟩ = some (.int .i64 ((rd_T27 l0 x12_2).f1.f0)) := (blk_cell BK387.out 1).trans rfl
                                        have hcz46_2 : wr.cell? ⟨gb387, 2, none⟩ = some (.int .i64 ((rd_T27 l0 x12_2).f1.f1)) := (blk_cell BK387.out 2).trans rfl
                                        have hcz46_3 : wr.cell? ⟨gb387, 3, none⟩ = some (.int .i64 ((rd_T27 l0 x12_2).f1.f2)) := (blk_cell BK387.out 3).trans rfl
                                        have hcz46_4 : wr.cell? ⟨gb387, 4, none⟩ = some (.slice ((rd_T27 l0 x12_2).f2).a ((rd_T27 l0 x12_2).f2).n ((rd_T27 l0 x12_2).f2).c) := (blk_cell BK387.out 4).trans rfl
                                        have hfz46_0 := blk_frozen BK387.out 0
                                        have hfz46_1 := blk_frozen BK387.out 1
                                        have hfz46_2 := blk_frozen BK387.out 2
                                        have hfz46_3 := blk_frozen BK387.out 3
                                        have hfz46_4 := blk_frozen BK387.out 4
                                        go_wp2
                                        repeat (go_quiet (fail); try go_wp2)
                                        go_roundg k4
                                        case measure => have := HK1.out; have := HK2.out; have := HJ20.out; have := HK4.out; omega
                                        case rel => exact ⟨(((rd t382 x16_4) == ((rd_T27 l0 x12_2).f0))), (wrap64 (x16_4 + 1)), (by first | rfl | (simp; done) | (simp [*]; done)), (by first | rfl | (simp; done) | (simp [*]; done)), H', ⟨by have := HK1.out; have := HK2.out; have := HJ20.out; have := HK4.out; omega⟩, ⟨by (with_reducible repeat (first | apply Kd.R_alloc | apply Kd.R_drewN | apply Kd.R_drew)); exact HO_7.out⟩, ⟨by (with_reducible repeat (first | apply Kd.R_alloc | apply Kd.R_drewN | apply Kd.R_drew)); exact HO_9.out⟩, ⟨by (with_reducible repeat (first | refine blk_drewN ?_ _ | refine blk_drew ?_ | refine blk_alloc ?_ _)); exact BK387.out⟩, ⟨by repeat (first | (with_reducible first | exact HB.out | apply below_alloc | apply pw_below_drewN | apply below_drew1 | refine below_set ?_ GE387.out) | exact HB.out)⟩⟩
                                      · rw [if_neg c44] at H
                                        exact absurd H (by simp)
                                  · rw [if_neg c41] at H
                                    have c41b0 : decide (x16_4 < (t382.length : Int)) = false := decide_eq_false c41
                                    clear c41
                                    by_cases c47 : ((((rd_T33 t378 ((rd_T27 l0 x12_2).f1.f1)).f0) == ((rd_T27 l0 x12_2).f0)) == x15_4) = true
                                    · rw [if_pos c47] at H
                                      have c47b0 : ((((rd_T33 t378 ((rd_T27 l0 x12_2).f1.f1)).f0) == ((rd_T27 l0 x12_2).f0)) == x15_4) = true := c47
                                      (try (have c47b1 : decide ((((rd_T33 t378 ((rd_T27 l0 x12_2).f1.f1)).f0) == ((rd_T27 l0 x12_2).f0)) = x15_4) = true := by simpa using c47))
                                      (try (have c47b2 : ((((rd_T33 t378 ((rd_T27 l0 x12_2).f1.f1)).f0) == ((rd_T27 l0 x12_2).f0)) == x15_4) = true := by simpa using c47))
                                      clear c47
                                      obtain rfl := Option.some.inj H
                                      obtain ⟨Ao48, co48, eo48⟩ := Kd.R_slice HO_9.out
                                      subst eo48
                                      go_wp2
                                      repeat (go_quiet (fail); try go_wp2)
                                      go_ret
                                      exact ⟨by first | rfl | (simp [errW_none, errW_some] <;> rfl) | (simp [*, errW_none, errW_some] <;> rfl), by repeat (first | (with_reducible first | exact HB.out | apply below_alloc | apply pw_below_drewN | apply below_drew1 | refine below_set ?_ GE387.out) | exact HB.out)⟩
                                    · rw [if_neg c47] at H
                                      have c47b0 : ((((rd_T33 t378 ((rd_T27 l0 x12_2).f1.f1)).f0) == ((rd_T27 l0 x12_2).f0)) == x15_4) = false := by simpa using c47
                                      (try (have c47b1 : decide ((((rd_T33 t378 ((rd_T27 l0 x12_2).f1.f1)).f0) == ((rd_T27 l0 x12_2).f0)) = x15_4) = false := by simpa using c47))
                                      (try (have c47b2 : ((((rd_T33 t378 ((rd_T27 l0 x12_2).f1.f1)).f0) == ((rd_T27 l0 x12_2).f0)) == x15_4) = false := by simpa using c47))
                                      (try (have c47b3 : ¬ ((((rd_T33 t378 ((rd_T27 l0 x12_2).f1.f1)).f0) == ((rd_T27 l0 x12_2).f0)) = x15_4) := by simpa using c47))
                                      clear c47
                                      have H' := Aside0.mk H
                                      clear H
                                      obtain ⟨Ao49, co49, eo49⟩ := Kd.R_slice HO_9.out
                                      subst eo49
                                      go_wp2
                                      repeat (go_quiet (fail); try go_wp2)
                                      go_roundg k4
                                      case measure => have := HK1.out; have := HK2.out; have := HJ20.out; have := HK4.out; omega
                                      case rel => exact ⟨((wrap64 (x10_2 - 1))), (wrap64 (x12_2 + 1)), (by first | rfl | (simp; done) | (simp [*]; done)), (by first | rfl | (simp; done) | (simp [*]; done)), H', ⟨by have := HK1.out; have := HK2.out; have := HJ20.out; have := HK4.out; omega⟩, ⟨by (with_reducible repeat (first | apply Kd.R_alloc | apply Kd.R_drewN | apply Kd.R_drew)); exact HO_7.out⟩, ⟨by (with_reducible repeat (first | apply Kd.R_alloc | apply Kd.R_drewN | apply Kd.R_drew)); exact HO_9.out⟩, ⟨by repeat (first | (with_reducible first | exact HB.out | apply below_alloc | apply pw_below_drewN | apply below_drew1 | refine below_set ?_ GE387.out) | exact HB.out)⟩⟩
                            · rw [if_neg c39] at H
                              exact absurd H (by simp)
                          · rw [if_neg c38] at H
                            exact absurd H (by simp)
                  · rw [if_neg c20] at H
                    exact absurd H (by simp)
                · rw [if_neg c19] at H
                  have c19b0 : decide (x12_2 < (l0.length : Int)) = false := decide_eq_false c19
                  clear c19
                  by_cases c50 : t376 = true
                  · subst c50
                    have H1 : (some ((wrap64 (x10_2 + (t382.length : Int))) == 0)) = some r := by rw [if_pos rfl] at H; exact H
                    clear H
                    have H := H1
                    clear H1
                    obtain rfl := Option.some.inj H
                    obtain ⟨Ao51, co51, eo51⟩ := Kd.R_slice HO_9.out
                    subst eo51
                    go_wp2
                    repeat (go_quiet (fail); try go_wp2)
                    go_ret
                    exact ⟨by first | rfl | (simp [errW_none, errW_some] <;> rfl) | (simp [*, errW_none, errW_some] <;> rfl), by repeat (first | (with_reducible first | exact HB.out | apply below_alloc | apply pw_below_drewN | apply below_drew1) | exact HB.out)⟩
                  · replace c50 := Bool.eq_false_iff.mpr c50
                    subst c50
                    have H1 : (some false) = some r := by rw [if_neg (show ¬ (false = true) by decide)] at H; exact H
                    clear H
                    have H := H1
                    clear H1
                    obtain rfl := Option.some.inj H
                    go_wp2
                    repeat (go_quiet (fail); try go_wp2)
                    go_ret
                    exact ⟨by first | rfl | (simp [errW_none, errW_some] <;> rfl) | (simp [*, errW_none, errW_some] <;> rfl), by repeat (first | (with_reducible first | exact HB.out | apply below_alloc | apply pw_below_drewN | apply below_drew1) | exact HB.out)⟩
    · replace c7 := Bool.eq_false_iff.mpr c7
      subst c7
      have H1 : (some t376) = some r := by rw [if_neg (show ¬ (false = true) by decide)] at H; exact H
      clear H
      have H := H1
      clear H1
      obtain rfl := Option.some.inj H
      go_enter Try.func7, Try.ntmps7
      go_wp2_with (first | (go_at_call 8; (with_reducible refine (strakelaw18_awake.calls  t376 _ A3.out).mono ?_); rintro e w52 ⟨rfl, hb⟩; have n0_ := Aside0.mk (below_step (by repeat (first | (with_reducible first | exact HB.out | apply below_alloc | apply pw_below_drewN | apply below_drew1) | exact HB.out)) hb); clear HB; have HB := n0_; clear n0_; (try clear hb); (try clear hb2); (try clear hk); (try clear hi)) | (go_at_call 13; (with_reducible refine (strakelaw18_apart.calls k _ _ l0 false _ ?side1 ?side2 A6.out).mono ?_); (case side1 => repeat (first | exact (Kd.C_below HR0.out HB.out) | (with_reducible refine Kd.C_alloc ?_ _) | (with_reducible refine Kd.C_drewN ?_ _) | (with_reducible refine Kd.C_drew ?_))); (case side2 => exact HC0.out); rintro e w' ⟨rfl, ⟨nd, rfl⟩⟩; (try first | exact ⟨rfl, _, World.drewN_drewN _ _ _⟩ | exact ⟨rfl, _, Eq.trans (World.drewN_drewN _ _ _) (congrArg (World.drewN _) (Nat.add_assoc _ _ _))⟩)))
      repeat (go_quiet (first | (go_at_call 8; (with_reducible refine (strakelaw18_awake.calls  t376 _ A3.out).mono ?_); rintro e w52 ⟨rfl, hb⟩; have n0_ := Aside0.mk (below_step (by repeat (first | (with_reducible first | exact HB.out | apply below_alloc | apply pw_below_drewN | apply below_drew1) | exact HB.out)) hb); clear HB; have HB := n0_; clear n0_; (try clear hb); (try clear hb2); (try clear hk); (try clear hi)) | (go_at_call 13; (with_reducible refine (strakelaw18_apart.calls k _ _ l0 false _ ?side1 ?side2 A6.out).mono ?_); (case side1 => repeat (first | exact (Kd.C_below HR0.out HB.out) | (with_reducible refine Kd.C_alloc ?_ _) | (with_reducible refine Kd.C_drewN ?_ _) | (with_reducible refine Kd.C_drew ?_))); (case side2 => exact HC0.out); rintro e w' ⟨rfl, ⟨nd, rfl⟩⟩; (try first | exact ⟨rfl, _, World.drewN_drewN _ _ _⟩ | exact ⟨rfl, _, Eq.trans (World.drewN_drewN _ _ _) (congrArg (World.drewN _) (Nat.add_assoc _ _ _))⟩))); try go_wp2_with (first | (go_at_call 8; (with_reducible refine (strakelaw18_awake.calls  t376 _ A3.out).mono ?_); rintro e w52 ⟨rfl, hb⟩; have n0_ := Aside0.mk (below_step (by repeat (first | (with_reducible first | exact HB.out | apply below_alloc | apply pw_below_drewN | apply below_drew1) | exact HB.out)) hb); clear HB; have HB := n0_; clear n0_; (try clear hb); (try clear hb2); (try clear hk); (try clear hi)) | (go_at_call 13; (with_reducible refine (strakelaw18_apart.calls k _ _ l0 false _ ?side1 ?side2 A6.out).mono ?_); (case side1 => repeat (first | exact (Kd.C_below HR0.out HB.out) | (with_reducible refine Kd.C_alloc ?_ _) | (with_reducible refine Kd.C_drewN ?_ _) | (with_reducible refine Kd.C_drew ?_))); (case side2 => exact HC0.out); rintro e w' ⟨rfl, ⟨nd, rfl⟩⟩; (try first | exact ⟨rfl, _, World.drewN_drewN _ _ _⟩ | exact ⟨rfl, _, Eq.trans (World.drewN_drewN _ _ _) (congrArg (World.drewN _) (Nat.add_assoc _ _ _))⟩))))
      go_ret
      exact ⟨by first | rfl | (simp [errW_none, errW_some] <;> rfl) | (simp [*, errW_none, errW_some] <;> rfl), by repeat (first | (with_reducible first | exact HB.out | apply below_alloc | apply pw_below_drewN | apply below_drew1) | exact HB.out)⟩

end Go.Proofs.Ytlheknapgonakaa.X
