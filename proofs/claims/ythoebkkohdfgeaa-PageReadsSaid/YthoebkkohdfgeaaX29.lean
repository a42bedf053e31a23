-- laid by wip/tools/xprint.py (our own changes over the printer)
import Derived.Test.YthoebkkohdfgeaaX0
import Derived.Test.YthoebkkohdfgeaaX1
import Derived.Test.YthoebkkohdfgeaaX17
import Derived.Test.YthoebkkohdfgeaaX13
namespace Go.Proofs.Ythoebkkohdfgeaa.X
open Go.RowKit Go.Proofs.YthoebkkohdfgeaaW.PrintWords Go.Proofs.YthoebkkohdfgeaaW.PrintLast Go.Proofs.YthoebkkohdfgeaaW.PrintMore
attribute [local go_sem] max2_int min2_int max_two min_two max_three min_three max_four min_four   -- for this text's walks alone
set_option linter.unusedVariables false
set_option linter.unusedSimpArgs false

/-! ### strakelaw15_short: function 14 -/
def strakelaw15_short.l0 : Nat → List (List Int) → Int → Option (Bool)
 | 0, _, _ => none
 | k + 1,x0,x3 => if x3 < (x0.length : Int) then (if 0 ≤ x3 then (if ((rd_L2 x0 x3).length : Int) > 1000 then (some false) else (strakelaw15_short.l0 k x0 (wrap64 (x3 + 1)))) else (none)) else (some (decide ((x0.length : Int) ≤ 100)))
def strakelaw15_short.f (k : Nat) (l0 : List (List Int)) : Option (Bool) := strakelaw15_short.l0 k l0 0
theorem strakelaw15_short.mono_l : ∀ k,(∀ y0 y1,LeO (strakelaw15_short.l0 k y0 y1) (strakelaw15_short.l0 (k + 1) y0 y1))
 | 0 => fun _ _ r h => by simp [strakelaw15_short.l0] at h
 | k + 1 => by
  have ih0 := strakelaw15_short.mono_l k
  ·intro y0 y1
   unfold strakelaw15_short.l0
   repeat' first
   | (with_reducible exact ih0 _ _)
   | (with_reducible exact LeO.refl _)
   | (with_reducible exact LeO.none _)
   | (with_reducible refine LeO.ite ?_ ?_)
   | (with_reducible refine LeO.bind ?_ (fun _ => ?_))
   | exact ih0 _ _
   | exact LeO.none _
   | refine LeO.ite ?_ ?_
   | refine LeO.bind ?_ (fun _ => ?_)
theorem strakelaw15_short.mono : ∀ a0 k, LeO (strakelaw15_short.f k a0) (strakelaw15_short.f (k + 1) a0) := by
 intro a0 k
 have ih0 := strakelaw15_short.mono_l k
 unfold strakelaw15_short.f
 repeat' first
   | (with_reducible exact ih0 _ _)
   | (with_reducible exact LeO.refl _)
   | (with_reducible exact LeO.none _)
   | (with_reducible refine LeO.ite ?_ ?_)
   | (with_reducible refine LeO.bind ?_ (fun _ => ?_))
   | exact ih0 _ _
   | exact LeO.none _
   | refine LeO.ite ?_ ?_
   | refine LeO.bind ?_ (fun _ => ?_)
set_option maxHeartbeats 8000000 in
set_option maxRecDepth 100000 in
theorem strakelaw15_short.calls (k : Nat) (A0 : Option Addr) (c0 : Nat) (l0 : List (List Int)) (r : Bool) (w : World) (hr0 : Kd.C (Kd.slice 5 (Kd.int .u8)) w A0 l0.length l0) (hc0 : l0.length ≤ c0) (h : strakelaw15_short.f k l0 = some r) :
  Calls Try.prog 14 #[.slice A0 l0.length c0] w fun e w' => e = .returned (.bool r) ∧ Drawn0 w w' := by
 have HR0 := Aside0.mk hr0
 have HC0 := Aside0.mk hc0
 clear hr0 hc0
 have H : (strakelaw15_short.l0 k l0 0) = some r := h
 clear h
 have H' := Aside0.mk H
 clear H
 go_enter Try.func14, Try.ntmps14
 go_wp2
 go_loopg [3] k (fun kq v3 w' => ∃ (x3_1 : Int),v3 = .int .i64 x3_1 ∧ Aside0 (strakelaw15_short.l0 kq l0 x3_1 = some r) ∧ Aside0 (kq ≤ k) ∧ Drawn0 w w')
 case atStart => exact ⟨(0),(by first|rfl|(simp;done)|(simp [*];done)),H',⟨Nat.le_refl _⟩,by repeat (first|exact Drawn0.refl _|apply Drawn0.step)⟩
 case round =>
  clear H'
  try clear c1
  obtain ⟨x3_1, rfl, HA, HK1, ⟨m1, rfl⟩⟩ := hrel
  cases gk with
  | zero => exact absurd HA.out (by simp [strakelaw15_short.l0])
  | succ k1 =>
   have H := HA.out
   clear HA
   simp only [strakelaw15_short.l0] at H
   by_cases c2 : x3_1 < (l0.length : Int)
   ·rw [if_pos c2] at H
    have c2b0 : decide (x3_1 < (l0.length : Int)) = true := decide_eq_true c2
    clear c2
    by_cases c3 : 0 ≤ x3_1
    ·rw [if_pos c3] at H
     have c3b0 : decide (0 ≤ x3_1) = true := decide_eq_true c3
     clear c3
     by_cases c4 : ((rd_L2 l0 x3_1).length : Int) > 1000
     ·rw [if_pos c4] at H
      have c4b0 : decide (1000 < ((rd_L2 l0 x3_1).length : Int)) = true := decide_eq_true c4
      have c4b1 : decide (1000 < (rd_L2 l0 x3_1).length) = true := decide_eq_true (by omega)
      clear c4
      obtain rfl := Option.some.inj H
      have p287 : 0 ≤ (x3_1 : Int) := of_decide_eq_true (by first | (with_reducible assumption) | assumption)
      have q287 : x3_1 < (l0.length : Int) := of_decide_eq_true (by first | (with_reducible assumption) | assumption)
      obtain ⟨ad287, A287_0, c287_0, e287, hx287_0, hl287_0, hi287_0⟩ := at_L2 HR0.out x3_1 p287 q287
      cases e287
      have HR287_0 := Aside0.mk hi287_0
      have HC287_0 := Aside0.mk hl287_0
      clear hi287_0 hl287_0
      replace p287 := eq_true p287
      replace q287 := eq_true q287
      go_wp2
      go_ret
      exact ⟨by first|rfl|(simp;done)|(simp [*];done),by repeat (first|exact Drawn0.refl _|apply Drawn0.step)⟩
     ·rw [if_neg c4] at H
      have c4b0 : decide (1000 < ((rd_L2 l0 x3_1).length : Int)) = false := decide_eq_false c4
      have c4b1 : decide (1000 < (rd_L2 l0 x3_1).length) = false := decide_eq_false (by omega)
      clear c4
      have H' := Aside0.mk H
      clear H
      have p287 : 0 ≤ (x3_1 : Int) := of_decide_eq_true (by first | (with_reducible assumption) | assumption)
      have q287 : x3_1 < (l0.length : Int) := of_decide_eq_true (by first | (with_reducible assumption) | assumption)
      obtain ⟨ad287, A287_0, c287_0, e287, hx287_0, hl287_0, hi287_0⟩ := at_L2 HR0.out x3_1 p287 q287
      cases e287
      have HR287_0 := Aside0.mk hi287_0
      have HC287_0 := Aside0.mk hl287_0
      clear hi287_0 hl287_0
      replace p287 := eq_true p287
      replace q287 := eq_true q287
      go_wp2
      go_roundg k1
      case measure => have := HK1.out; omega
      case rel => exact ⟨(wrap64 (x3_1 + 1)),(by first|rfl|(simp;done)|(simp [*];done)),H',⟨by have := HK1.out;omega⟩,by repeat (first|exact Drawn0.refl _|apply Drawn0.step)⟩
    ·rw [if_neg c3] at H
     exact absurd H (by simp)
   ·rw [if_neg c2] at H
    have c2b0 : decide (x3_1 < (l0.length : Int)) = false := decide_eq_false c2
    clear c2
    obtain rfl := Option.some.inj H
    go_wp2
    go_ret
    exact ⟨by first|rfl|(simp;done)|(simp [*];done),by repeat (first|exact Drawn0.refl _|apply Drawn0.step)⟩


attribute [local go_sem high] eqA40
/-! ### strakeref15_SameFound: function 15 -/
def strakeref15_SameFound.l0 : Nat → List (S42) → List (S42) → Int → Option (Bool)
 | 0, _, _, _ => none
 | k + 1,x0,x1,x5 => if x5 < (x0.length : Int) then (if 0 ≤ x5 then (if x5 < (x1.length : Int) then (if ((rd_T42 x0 x5).f0) = ((rd_T42 x1 x5).f0) then (if (!(((rd_T42 x0 x5).f1.f0) == ((rd_T42 x1 x5).f1.f0)) || (!(((rd_T42 x0 x5).f1.f1) == ((rd_T42 x1 x5).f1.f1)) || (!(((rd_T42 x0 x5).f1.f2) == ((rd_T42 x1 x5).f1.f2))))) = true then (some false) else (if (strOfNums ((rd_T42 x0 x5).f2)).toList = (strOfNums ((rd_T42 x1 x5).f2)).toList then (strakeref15_SameFound.l0 k x0 x1 (wrap64 (x5 + 1))) else (some false))) else (some false)) else (none)) else (none)) else (some true)
def strakeref15_SameFound.f (k : Nat) (l0 : List (S42)) (l1 : List (S42)) : Option (Bool) := if (l0.length : Int) = (l1.length : Int) then (strakeref15_SameFound.l0 k l0 l1 0) else (some false)
theorem strakeref15_SameFound.mono_l : ∀ k,(∀ y0 y1 y2,LeO (strakeref15_SameFound.l0 k y0 y1 y2) (strakeref15_SameFound.l0 (k + 1) y0 y1 y2))
 | 0 => fun _ _ _ r h => by simp [strakeref15_SameFound.l0] at h
 | k + 1 => by
  have ih0 := strakeref15_SameFound.mono_l k
  ·intro y0 y1 y2
   unfold strakeref15_SameFound.l0
   repeat' first
   | (with_reducible exact ih0 _ _ _)
   | (with_reducible exact LeO.refl _)
   | (with_reducible exact LeO.none _)
   | (with_reducible refine LeO.ite ?_ ?_)
   | (with_reducible refine LeO.bind ?_ (fun _ => ?_))
   | exact ih0 _ _ _
   | exact LeO.none _
   | refine LeO.ite ?_ ?_
   | refine LeO.bind ?_ (fun _ => ?_)
theorem strakeref15_SameFound.mono : ∀ a0 a1 k,LeO (strakeref15_SameFound.f k a0 a1) (strakeref15_SameFound.f (k + 1) a0 a1) := by
 intro a0 a1 k
 have ih0 := strakeref15_SameFound.mono_l k
 unfold strakeref15_SameFound.f
 repeat' first
   | (with_reducible exact ih0 _ _ _)
   | (with_reducible exact LeO.refl _)
   | (with_reducible exact LeO.none _)
   | (with_reducible refine LeO.ite ?_ ?_)
   | (with_reducible refine LeO.bind ?_ (fun _ => ?_))
   | exact ih0 _ _ _
   | exact LeO.none _
   | refine LeO.ite ?_ ?_
   | refine LeO.bind ?_ (fun _ => ?_)
set_option maxHeartbeats 8000000 in
set_option maxRecDepth 100000 in
theorem strakeref15_SameFound.calls (k : Nat) (A0 : Option Addr) (c0 : Nat) (l0 : List (S42)) (A1 : Option Addr) (c1 : Nat) (l1 : List (S42)) (r : Bool) (w : World) (hr0 : Kd.C k42 w A0 l0.length l0) (hc0 : l0.length ≤ c0) (hr1 : Kd.C k42 w A1 l1.length l1) (hc1 : l1.length ≤ c1) (h : strakeref15_SameFound.f k l0 l1 = some r) :
  Calls Try.prog 15 #[.slice A0 l0.length c0,.slice A1 l1.length c1] w fun e w' => e = .returned (.bool r) ∧ Drawn0 w w' := by
 have hu40 := Try.underlying40
 have HR0 := Aside0.mk hr0
 have HC0 := Aside0.mk hc0
 clear hr0 hc0
 have HR1 := Aside0.mk hr1
 have HC1 := Aside0.mk hc1
 clear hr1 hc1
 have H : (if (l0.length : Int) = (l1.length : Int) then (strakeref15_SameFound.l0 k l0 l1 0) else (some false)) = some r := h
 clear h
 by_cases c3 : (l0.length : Int) = (l1.length : Int)
 ·rw [if_pos c3] at H
  have c3b0 : ((l0.length : Int) == (l1.length : Int)) = true := beq_iff_eq.mpr c3
  have c3b1 : ((l0.length : Int) != (l1.length : Int)) = false := bne_eq_false_iff_eq.mpr c3
  have c3b2 : (l0.length == l1.length) = true := by first | simpa using c3 | (simp at c3 ⊢; omega)
  clear c3
  have H' := Aside0.mk H
  clear H
  go_enter Try.func15, Try.ntmps15
  go_wp2
  repeat (go_quiet (fail); try go_wp2)
  go_loopg [5] k (fun kq v5 w' => ∃ (x5_1 : Int),v5 = .int .i64 x5_1 ∧ Aside0 (strakeref15_SameFound.l0 kq l0 l1 x5_1 = some r) ∧ Aside0 (kq ≤ k) ∧ Drawn0 w w')
  case atStart => exact ⟨(0),(by first|rfl|(simp;done)|(simp [*];done)),H',⟨Nat.le_refl _⟩,by repeat (first|exact Drawn0.refl _|apply Drawn0.step)⟩
  case round =>
   clear H'
   try clear c1
   try clear p2
   try clear c3
   try clear c3b0
   try clear c3b1
   try clear c3b2
   obtain ⟨x5_1, rfl, HA, HK1, ⟨m1, rfl⟩⟩ := hrel
   cases gk with
   | zero => exact absurd HA.out (by simp [strakeref15_SameFound.l0])
   | succ k1 =>
    have H := HA.out
    clear HA
    simp only [strakeref15_SameFound.l0] at H
    by_cases c4 : x5_1 < (l0.length : Int)
    ·rw [if_pos c4] at H
     have c4b0 : decide (x5_1 < (l0.length : Int)) = true := decide_eq_true c4
     clear c4
     by_cases c5 : 0 ≤ x5_1
     ·rw [if_pos c5] at H
      have c5b0 : decide (0 ≤ x5_1) = true := decide_eq_true c5
      clear c5
      by_cases c6 : x5_1 < (l1.length : Int)
      ·rw [if_pos c6] at H
       have c6b0 : decide (x5_1 < (l1.length : Int)) = true := decide_eq_true c6
       clear c6
       by_cases c7 : ((rd_T42 l0 x5_1).f0) = ((rd_T42 l1 x5_1).f0)
       ·rw [if_pos c7] at H
        have c7b0 : (((rd_T42 l0 x5_1).f0) == ((rd_T42 l1 x5_1).f0)) = true := beq_iff_eq.mpr c7
        have c7b1 : (((rd_T42 l0 x5_1).f0) != ((rd_T42 l1 x5_1).f0)) = false := bne_eq_false_iff_eq.mpr c7
        clear c7
        by_cases c8 : (!(((rd_T42 l0 x5_1).f1.f0) == ((rd_T42 l1 x5_1).f1.f0)) || (!(((rd_T42 l0 x5_1).f1.f1) == ((rd_T42 l1 x5_1).f1.f1)) || (!(((rd_T42 l0 x5_1).f1.f2) == ((rd_T42 l1 x5_1).f1.f2))))) = true
        ·rw [if_pos c8] at H
         have c8b0 : (!(((rd_T42 l0 x5_1).f1.f0) == ((rd_T42 l1 x5_1).f1.f0)) || (!(((rd_T42 l0 x5_1).f1.f1) == ((rd_T42 l1 x5_1).f1.f1)) || (!(((rd_T42 l0 x5_1).f1.f2) == ((rd_T42 l1 x5_1).f1.f2))))) = true := c8
         clear c8
         obtain rfl := Option.some.inj H
         have p288 : 0 ≤ (x5_1 : Int) := of_decide_eq_true (by first | (with_reducible assumption) | assumption)
         have q288 : x5_1 < (l0.length : Int) := of_decide_eq_true (by first | (with_reducible assumption) | assumption)
         obtain ⟨ad288,A288_4,c288_4,e288,hx288_0,hx288_1,hx288_2,hx288_3,hx288_4,hl288_4,hi288_4⟩ := at_T42 HR0.out x5_1 p288 q288
         cases e288
         have HR288_4 := Aside0.mk hi288_4
         have HC288_4 := Aside0.mk hl288_4
         clear hi288_4 hl288_4
         replace p288 := eq_true p288
         replace q288 := eq_true q288
         have p289 : 0 ≤ (x5_1 : Int) := of_decide_eq_true (by first | (with_reducible assumption) | assumption)
         have q289 : x5_1 < (l1.length : Int) := of_decide_eq_true (by first | (with_reducible assumption) | assumption)
         obtain ⟨ad289,A289_4,c289_4,e289,hx289_0,hx289_1,hx289_2,hx289_3,hx289_4,hl289_4,hi289_4⟩ := at_T42 HR1.out x5_1 p289 q289
         cases e289
         have HR289_4 := Aside0.mk hi289_4
         have HC289_4 := Aside0.mk hl289_4
         clear hi289_4 hl289_4
         replace p289 := eq_true p289
         replace q289 := eq_true q289
         have p290 : 0 ≤ (x5_1 : Int) := of_decide_eq_true (by first | (with_reducible assumption) | assumption)
         have q290 : x5_1 < (l0.length : Int) := of_decide_eq_true (by first | (with_reducible assumption) | assumption)
         obtain ⟨ad290,A290_4,c290_4,e290,hx290_0,hx290_1,hx290_2,hx290_3,hx290_4,hl290_4,hi290_4⟩ := at_T42 HR0.out x5_1 p290 q290
         obtain rfl : ad288 = ad290 := (by injection e290)
         have HR290_4 := Aside0.mk hi290_4
         have HC290_4 := Aside0.mk hl290_4
         clear hi290_4 hl290_4
         replace p290 := eq_true p290
         replace q290 := eq_true q290
         have ea_ := Option.some.inj (hx288_4.symm.trans hx290_4)
         injection ea_ with ea_ en_ ec_
         subst ea_
         subst ec_
         clear en_
         have p291 : 0 ≤ (x5_1 : Int) := of_decide_eq_true (by first | (with_reducible assumption) | assumption)
         have q291 : x5_1 < (l1.length : Int) := of_decide_eq_true (by first | (with_reducible assumption) | assumption)
         obtain ⟨ad291,A291_4,c291_4,e291,hx291_0,hx291_1,hx291_2,hx291_3,hx291_4,hl291_4,hi291_4⟩ := at_T42 HR1.out x5_1 p291 q291
         obtain rfl : ad289 = ad291 := (by injection e291)
         have HR291_4 := Aside0.mk hi291_4
         have HC291_4 := Aside0.mk hl291_4
         clear hi291_4 hl291_4
         replace p291 := eq_true p291
         replace q291 := eq_true q291
         have ea_ := Option.some.inj (hx289_4.symm.trans hx291_4)
         injection ea_ with ea_ en_ ec_
         subst ea_
         subst ec_
         clear en_
         go_wp2
         repeat (go_quiet (fail); try go_wp2)
         go_ret
         exact ⟨by first|rfl|(simp;done)|(simp [*];done),by repeat (first|exact Drawn0.refl _|apply Drawn0.step)⟩
        ·rw [if_neg c8] at H
         have c8b0 : (!(((rd_T42 l0 x5_1).f1.f0) == ((rd_T42 l1 x5_1).f1.f0)) || (!(((rd_T42 l0 x5_1).f1.f1) == ((rd_T42 l1 x5_1).f1.f1)) || (!(((rd_T42 l0 x5_1).f1.f2) == ((rd_T42 l1 x5_1).f1.f2))))) = false := by simpa using c8
         clear c8
         by_cases c9 : (strOfNums ((rd_T42 l0 x5_1).f2)).toList = (strOfNums ((rd_T42 l1 x5_1).f2)).toList
         ·rw [if_pos c9] at H
          have c9b0 : ((strOfNums ((rd_T42 l0 x5_1).f2)).toList == (strOfNums ((rd_T42 l1 x5_1).f2)).toList) = true := beq_iff_eq.mpr c9
          have c9b1 : ((strOfNums ((rd_T42 l0 x5_1).f2)).toList != (strOfNums ((rd_T42 l1 x5_1).f2)).toList) = false := bne_eq_false_iff_eq.mpr c9
          clear c9
          have H' := Aside0.mk H
          clear H
          have p288 : 0 ≤ (x5_1 : Int) := of_decide_eq_true (by first | (with_reducible assumption) | assumption)
          have q288 : x5_1 < (l0.length : Int) := of_decide_eq_true (by first|(with_reducible assumption)|assumption)
          obtain ⟨ad288,A288_4,c288_4,e288,hx288_0,hx288_1,hx288_2,hx288_3,hx288_4,hl288_4,hi288_4⟩ := at_T42 HR0.out x5_1 p288 q288
          cases e288
          have HR288_4 := Aside0.mk hi288_4
          have HC288_4 := Aside0.mk hl288_4
          clear hi288_4 hl288_4
          replace p288 := eq_true p288
          replace q288 := eq_true q288
          have p289 : 0 ≤ (x5_1 : Int) := of_decide_eq_true (by first | (with_reducible assumption) | assumption)
          have q289 : x5_1 < (l1.length : Int) := of_decide_eq_true (by first|(with_reducible assumption)|assumption)
          obtain ⟨ad289,A289_4,c289_4,e289,hx289_0,hx289_1,hx289_2,hx289_3,hx289_4,hl289_4,hi289_4⟩ := at_T42 HR1.out x5_1 p289 q289
          cases e289
          have HR289_4 := Aside0.mk hi289_4
          have HC289_4 := Aside0.mk hl289_4
          clear hi289_4 hl289_4
          replace p289 := eq_true p289
          replace q289 := eq_true q289
          have p290 : 0 ≤ (x5_1 : Int) := of_decide_eq_true (by first | (with_reducible assumption) | assumption)
          have q290 : x5_1 < (l0.length : Int) := of_decide_eq_true (by first|(with_reducible assumption)|assumption)
          obtain ⟨ad290,A290_4,c290_4,e290,hx290_0,hx290_1,hx290_2,hx290_3,hx290_4,hl290_4,hi290_4⟩ := at_T42 HR0.out x5_1 p290 q290
          obtain rfl : ad288 = ad290 := (by injection e290)
          have HR290_4 := Aside0.mk hi290_4
          have HC290_4 := Aside0.mk hl290_4
          clear hi290_4 hl290_4
          replace p290 := eq_true p290
          replace q290 := eq_true q290
          have ea_ := Option.some.inj (hx288_4.symm.trans hx290_4)
          injection ea_ with ea_ en_ ec_
          subst ea_
          subst ec_
          clear en_
          have p291 : 0 ≤ (x5_1 : Int) := of_decide_eq_true (by first | (with_reducible assumption) | assumption)
          have q291 : x5_1 < (l1.length : Int) := of_decide_eq_true (by first|(with_reducible assumption)|assumption)
          obtain ⟨ad291,A291_4,c291_4,e291,hx291_0,hx291_1,hx291_2,hx291_3,hx291_4,hl291_4,hi291_4⟩ := at_T42 HR1.out x5_1 p291 q291
          obtain rfl : ad289 = ad291 := (by injection e291)
          have HR291_4 := Aside0.mk hi291_4
          have HC291_4 := Aside0.mk hl291_4
          clear hi291_4 hl291_4
          replace p291 := eq_true p291
          replace q291 := eq_true q291
          have ea_ := Option.some.inj (hx289_4.symm.trans hx291_4)
          injection ea_ with ea_ en_ ec_
          subst ea_
          subst ec_
          clear en_
          have p292 : 0 ≤ (x5_1 : Int) := of_decide_eq_true (by first | (with_reducible assumption) | assumption)
          have q292 : x5_1 < (l0.length : Int) := of_decide_eq_true (by first|(with_reducible assumption)|assumption)
          obtain ⟨ad292,A292_4,c292_4,e292,hx292_0,hx292_1,hx292_2,hx292_3,hx292_4,hl292_4,hi292_4⟩ := at_T42 HR0.out x5_1 p292 q292
          obtain rfl : ad288 = ad292 := (by injection e292)
          have HR292_4 := Aside0.mk hi292_4
          have HC292_4 := Aside0.mk hl292_4
          clear hi292_4 hl292_4
          replace p292 := eq_true p292
          replace q292 := eq_true q292
          have ea_ := Option.some.inj (hx288_4.symm.trans hx292_4)
          injection ea_ with ea_ en_ ec_
          subst ea_
          subst ec_
          clear en_
          have hcv10 := Kd.C_string (P := Try.prog) (A := A288_4) (c := c288_4) Try.underlying36 Try.underlying5 Try.underlying9 HR292_4.out
          have hcv11 := fun nq_ : Nat => Kd.C_string (P := Try.prog) (A := A288_4) (c := c288_4) Try.underlying36 Try.underlying5 Try.underlying9 (Kd.C_drewN HR292_4.out nq_)
          have p293 : 0 ≤ (x5_1 : Int) := of_decide_eq_true (by first | (with_reducible assumption) | assumption)
          have q293 : x5_1 < (l1.length : Int) := of_decide_eq_true (by first|(with_reducible assumption)|assumption)
          obtain ⟨ad293,A293_4,c293_4,e293,hx293_0,hx293_1,hx293_2,hx293_3,hx293_4,hl293_4,hi293_4⟩ := at_T42 HR1.out x5_1 p293 q293
          obtain rfl : ad289 = ad293 := (by injection e293)
          have HR293_4 := Aside0.mk hi293_4
          have HC293_4 := Aside0.mk hl293_4
          clear hi293_4 hl293_4
          replace p293 := eq_true p293
          replace q293 := eq_true q293
          have ea_ := Option.some.inj (hx289_4.symm.trans hx293_4)
          injection ea_ with ea_ en_ ec_
          subst ea_
          subst ec_
          clear en_
          have hcv12 := Kd.C_string (P := Try.prog) (A := A289_4) (c := c289_4) Try.underlying36 Try.underlying5 Try.underlying9 HR293_4.out
          have hcv13 := fun nq_ : Nat => Kd.C_string (P := Try.prog) (A := A289_4) (c := c289_4) Try.underlying36 Try.underlying5 Try.underlying9 (Kd.C_drewN HR293_4.out nq_)
          go_wp2
          repeat (go_quiet (fail); try go_wp2)
          go_roundg k1
          case measure => have := HK1.out; omega
          case rel => exact ⟨(wrap64 (x5_1 + 1)),(by first|rfl|(simp;done)|(simp [*];done)),H',⟨by have := HK1.out;omega⟩,by repeat (first|exact Drawn0.refl _|apply Drawn0.step)⟩
         ·rw [if_neg c9] at H
          have c9b0 : ((strOfNums ((rd_T42 l0 x5_1).f2)).toList == (strOfNums ((rd_T42 l1 x5_1).f2)).toList) = false := beq_eq_false_iff_ne.mpr c9
          have c9b1 : ((strOfNums ((rd_T42 l0 x5_1).f2)).toList != (strOfNums ((rd_T42 l1 x5_1).f2)).toList) = true := bne_iff_ne.mpr c9
          obtain rfl := Option.some.inj H
          have p288 : 0 ≤ (x5_1 : Int) := of_decide_eq_true (by first | (with_reducible assumption) | assumption)
          have q288 : x5_1 < (l0.length : Int) := of_decide_eq_true (by first|(with_reducible assumption)|assumption)
          obtain ⟨ad288,A288_4,c288_4,e288,hx288_0,hx288_1,hx288_2,hx288_3,hx288_4,hl288_4,hi288_4⟩ := at_T42 HR0.out x5_1 p288 q288
          cases e288
          have HR288_4 := Aside0.mk hi288_4
          have HC288_4 := Aside0.mk hl288_4
          clear hi288_4 hl288_4
          replace p288 := eq_true p288
          replace q288 := eq_true q288
          have p289 : 0 ≤ (x5_1 : Int) := of_decide_eq_true (by first | (with_reducible assumption) | assumption)
          have q289 : x5_1 < (l1.length : Int) := of_decide_eq_true (by first|(with_reducible assumption)|assumption)
          obtain ⟨ad289,A289_4,c289_4,e289,hx289_0,hx289_1,hx289_2,hx289_3,hx289_4,hl289_4,hi289_4⟩ := at_T42 HR1.out x5_1 p289 q289
          cases e289
          have HR289_4 := Aside0.mk hi289_4
          have HC289_4 := Aside0.mk hl289_4
          clear hi289_4 hl289_4
          replace p289 := eq_true p289
          replace q289 := eq_true q289
          have p290 : 0 ≤ (x5_1 : Int) := of_decide_eq_true (by first | (with_reducible assumption) | assumption)
          have q290 : x5_1 < (l0.length : Int) := of_decide_eq_true (by first|(with_reducible assumption)|assumption)
          obtain ⟨ad290,A290_4,c290_4,e290,hx290_0,hx290_1,hx290_2,hx290_3,hx290_4,hl290_4,hi290_4⟩ := at_T42 HR0.out x5_1 p290 q290
          obtain rfl : ad288 = ad290 := (by injection e290)
          have HR290_4 := Aside0.mk hi290_4
          have HC290_4 := Aside0.mk hl290_4
          clear hi290_4 hl290_4
          replace p290 := eq_true p290
          replace q290 := eq_true q290
          have ea_ := Option.some.inj (hx288_4.symm.trans hx290_4)
          injection ea_ with ea_ en_ ec_
          subst ea_
          subst ec_
          clear en_
          have p291 : 0 ≤ (x5_1 : Int) := of_decide_eq_true (by first | (with_reducible assumption) | assumption)
          have q291 : x5_1 < (l1.length : Int) := of_decide_eq_true (by first|(with_reducible assumption)|assumption)
          obtain ⟨ad291,A291_4,c291_4,e291,hx291_0,hx291_1,hx291_2,hx291_3,hx291_4,hl291_4,hi291_4⟩ := at_T42 HR1.out x5_1 p291 q291
          obtain rfl : ad289 = ad291 := (by injection e291)
          have HR291_4 := Aside0.mk hi291_4
          have HC291_4 := Aside0.mk hl291_4
          clear hi291_4 hl291_4
          replace p291 := eq_true p291
          replace q291 := eq_true q291
          have ea_ := Option.some.inj (hx289_4.symm.trans hx291_4)
          injection ea_ with ea_ en_ ec_
          subst ea_
          subst ec_
          clear en_
          have p292 : 0 ≤ (x5_1 : Int) := of_decide_eq_true (by first | (with_reducible assumption) | assumption)
          have q292 : x5_1 < (l0.length : Int) := of_decide_eq_true (by first|(with_reducible assumption)|assumption)
          obtain ⟨ad292,A292_4,c292_4,e292,hx292_0,hx292_1,hx292_2,hx292_3,hx292_4,hl292_4,hi292_4⟩ := at_T42 HR0.out x5_1 p292 q292
          obtain rfl : ad288 = ad292 := (by injection e292)
          have HR292_4 := Aside0.mk hi292_4
          have HC292_4 := Aside0.mk hl292_4
          clear hi292_4 hl292_4
          replace p292 := eq_true p292
          replace q292 := eq_true q292
          have ea_ := Option.some.inj (hx288_4.symm.trans hx292_4)
          injection ea_ with ea_ en_ ec_
          subst ea_
          subst ec_
          clear en_
          have hcv14 := Kd.C_string (P := Try.prog) (A := A288_4) (c := c288_4) Try.underlying36 Try.underlying5 Try.underlying9 HR292_4.out
          have hcv15 := fun nq_ : Nat => Kd.C_string (P := Try.prog) (A := A288_4) (c := c288_4) Try.underlying36 Try.underlying5 Try.underlying9 (Kd.C_drewN HR292_4.out nq_)
          have p293 : 0 ≤ (x5_1 : Int) := of_decide_eq_true (by first | (with_reducible assumption) | assumption)
          have q293 : x5_1 < (l1.length : Int) := of_decide_eq_true (by first|(with_reducible assumption)|assumption)
          obtain ⟨ad293,A293_4,c293_4,e293,hx293_0,hx293_1,hx293_2,hx293_3,hx293_4,hl293_4,hi293_4⟩ := at_T42 HR1.out x5_1 p293 q293
          obtain rfl : ad289 = ad293 := (by injection e293)
          have HR293_4 := Aside0.mk hi293_4
          have HC293_4 := Aside0.mk hl293_4
          clear hi293_4 hl293_4
          replace p293 := eq_true p293
          replace q293 := eq_true q293
          have ea_ := Option.some.inj (hx289_4.symm.trans hx293_4)
          injection ea_ with ea_ en_ ec_
          subst ea_
          subst ec_
          clear en_
          have hcv16 := Kd.C_string (P := Try.prog) (A := A289_4) (c := c289_4) Try.underlying36 Try.underlying5 Try.underlying9 HR293_4.out
          have hcv17 := fun nq_ : Nat => Kd.C_string (P := Try.prog) (A := A289_4) (c := c289_4) Try.underlying36 Try.underlying5 Try.underlying9 (Kd.C_drewN HR293_4.out nq_)
          go_wp2
          repeat (go_quiet (fail); try go_wp2)
          go_ret
          exact ⟨by first|rfl|(simp;done)|(simp [*];done),by repeat (first|exact Drawn0.refl _|apply Drawn0.step)⟩
       ·rw [if_neg c7] at H
        have c7b0 : (((rd_T42 l0 x5_1).f0) == ((rd_T42 l1 x5_1).f0)) = false := beq_eq_false_iff_ne.mpr c7
        have c7b1 : (((rd_T42 l0 x5_1).f0) != ((rd_T42 l1 x5_1).f0)) = true := bne_iff_ne.mpr c7
        obtain rfl := Option.some.inj H
        have p288 : 0 ≤ (x5_1 : Int) := of_decide_eq_true (by first | (with_reducible assumption) | assumption)
        have q288 : x5_1 < (l0.length : Int) := of_decide_eq_true (by first | (with_reducible assumption) | assumption)
        obtain ⟨ad288,A288_4,c288_4,e288,hx288_0,hx288_1,hx288_2,hx288_3,hx288_4,hl288_4,hi288_4⟩ := at_T42 HR0.out x5_1 p288 q288
        cases e288
        have HR288_4 := Aside0.mk hi288_4
        have HC288_4 := Aside0.mk hl288_4
        clear hi288_4 hl288_4
        replace p288 := eq_true p288
        replace q288 := eq_true q288
        have p289 : 0 ≤ (x5_1 : Int) := of_decide_eq_true (by first | (with_reducible assumption) | assumption)
        have q289 : x5_1 < (l1.length : Int) := of_decide_eq_true (by first | (with_reducible assumption) | assumption)
        obtain ⟨ad289,A289_4,c289_4,e289,hx289_0,hx289_1,hx289_2,hx289_3,hx289_4,hl289_4,hi289_4⟩ := at_T42 HR1.out x5_1 p289 q289
        cases e289
        have HR289_4 := Aside0.mk hi289_4
        have HC289_4 := Aside0.mk hl289_4
        clear hi289_4 hl289_4
        replace p289 := eq_true p289
        replace q289 := eq_true q289
        go_wp2
        repeat (go_quiet (fail); try go_wp2)
        go_ret
        exact ⟨by first|rfl|(simp;done)|(simp [*];done),by repeat (first|exact Drawn0.refl _|apply Drawn0.step)⟩
      ·rw [if_neg c6] at H
       exact absurd H (by simp)
     ·rw [if_neg c5] at H
      exact absurd H (by simp)
    ·rw [if_neg c4] at H
     have c4b0 : decide (x5_1 < (l0.length : Int)) = false := decide_eq_false c4
     clear c4
     obtain rfl := Option.some.inj H
     go_wp2
     repeat (go_quiet (fail); try go_wp2)
     go_ret
     exact ⟨by first|rfl|(simp;done)|(simp [*];done),by repeat (first|exact Drawn0.refl _|apply Drawn0.step)⟩
 ·rw [if_neg c3] at H
  have c3b0 : ((l0.length : Int) == (l1.length : Int)) = false := beq_eq_false_iff_ne.mpr c3
  have c3b1 : ((l0.length : Int) != (l1.length : Int)) = true := bne_iff_ne.mpr c3
  have c3b2 : (l0.length == l1.length) = false := by first | simpa using c3 | (simp at c3 ⊢; omega)
  obtain rfl := Option.some.inj H
  go_enter Try.func15, Try.ntmps15
  go_wp2
  repeat (go_quiet (fail); try go_wp2)
  go_ret
  exact ⟨by first | rfl | (simp; done) | (simp [*]; done), by repeat (first | exact Drawn0.refl _ | apply Drawn0.step)⟩


/-! ### strakeref02_TakeFixed: function 44 -/
def strakeref02_TakeFixed.f (l0 : List Int) : Option (Int × Int) := if (l0.length : Int) < 4 then (some (0,3)) else (if 0 < (l0.length : Int) then (if 1 < (l0.length : Int) then (if 2 < (l0.length : Int) then (if 3 < (l0.length : Int) then (some (((((rd l0 0) + (256 * ((rd l0 1) % 4294967296))) + (65536 * ((rd l0 2) % 4294967296))) + (16777216 * ((rd l0 3) % 4294967296))) % 4294967296,0)) else (none)) else (none)) else (none)) else (none))
set_option maxHeartbeats 8000000 in
set_option maxRecDepth 100000 in
theorem strakeref02_TakeFixed.calls (A0 : Option Addr) (c0 : Nat) (l0 : List Int) (r1 : Int) (r2 : Int) (w : World) (hr0 : Kd.C (Kd.int .u8) w A0 l0.length l0) (hc0 : l0.length ≤ c0) (h : strakeref02_TakeFixed.f l0 = some (r1,r2)) :
  Calls Try.prog 44 #[.slice A0 l0.length c0] w fun e w' => e = .returned (.tuple #[.int .u32 r1,.int .i64 r2]) ∧ Drawn0 w w' := by
 have HR0 := Aside0.mk hr0
 have HC0 := Aside0.mk hc0
 clear hr0 hc0
 have H : (if (l0.length : Int) < 4 then (some (0,3)) else (if 0 < (l0.length : Int) then (if 1 < (l0.length : Int) then (if 2 < (l0.length : Int) then (if 3 < (l0.length : Int) then (some (((((rd l0 0) + (256 * ((rd l0 1) % 4294967296))) + (65536 * ((rd l0 2) % 4294967296))) + (16777216 * ((rd l0 3) % 4294967296))) % 4294967296,0)) else (none)) else (none)) else (none)) else (none))) = some (r1,r2) := h
 clear h
 by_cases c2 : (l0.length : Int) < 4
 ·rw [if_pos c2] at H
  have c2b0 : decide ((l0.length : Int) < 4) = true := decide_eq_true c2
  have c2b1 : decide (l0.length < 4) = true := decide_eq_true (by omega)
  clear c2
  simp only [Option.some.injEq, Prod.mk.injEq] at H
  obtain ⟨rfl, rfl⟩ := H
  go_enter Try.func44, Try.ntmps44
  go_wp2
  repeat (go_quiet (fail); try go_wp2)
  go_ret2
  exact ⟨by first | rfl | (simp; done) | (simp [*]; done), by repeat (first | exact Drawn0.refl _ | apply Drawn0.step)⟩
 ·rw [if_neg c2] at H
  have c2b0 : decide ((l0.length : Int) < 4) = false := decide_eq_false c2
  have c2b1 : decide (l0.length < 4) = false := decide_eq_false (by omega)
  clear c2
  by_cases c3 : 0 < (l0.length : Int)
  ·rw [if_pos c3] at H
   have c3b0 : decide (0 < (l0.length : Int)) = true := decide_eq_true c3
   have c3b1 : decide (0 < l0.length) = true := decide_eq_true (by omega)
   clear c3
   by_cases c4 : 1 < (l0.length : Int)
   ·rw [if_pos c4] at H
    have c4b0 : decide (1 < (l0.length : Int)) = true := decide_eq_true c4
    have c4b1 : decide (1 < l0.length) = true := decide_eq_true (by omega)
    clear c4
    by_cases c5 : 2 < (l0.length : Int)
    ·rw [if_pos c5] at H
     have c5b0 : decide (2 < (l0.length : Int)) = true := decide_eq_true c5
     have c5b1 : decide (2 < l0.length) = true := decide_eq_true (by omega)
     clear c5
     by_cases c6 : 3 < (l0.length : Int)
     ·rw [if_pos c6] at H
      have c6b0 : decide (3 < (l0.length : Int)) = true := decide_eq_true c6
      have c6b1 : decide (3 < l0.length) = true := decide_eq_true (by omega)
      clear c6
      simp only [Option.some.injEq, Prod.mk.injEq] at H
      obtain ⟨rfl, rfl⟩ := H
      have p294 : 0 ≤ (0 : Int) := (by omega)
      have q294 : 0 < (l0.length : Int) := of_decide_eq_true (by first | (with_reducible assumption) | assumption)
      obtain ⟨ad294, e294, hx294_0⟩ := Kd.at_int HR0.out 0 p294 q294
      cases e294
      have qi294 : (0 < l0.length) = True := eq_true (by omega)
      (try rw [show ((0 : Int)).toNat = 0 from rfl] at hx294_0)
      (try rw [Addr.add_zero'] at hx294_0)
      replace p294 := eq_true p294
      replace q294 := eq_true q294
      have p295 : 0 ≤ (1 : Int) := (by omega)
      have q295 : 1 < (l0.length : Int) := of_decide_eq_true (by first | (with_reducible assumption) | assumption)
      obtain ⟨ad295, e295, hx295_0⟩ := Kd.at_int HR0.out 1 p295 q295
      obtain rfl : ad294 = ad295 := (by injection e295)
      (try simp only [show (1 : Int).toNat = 1 from rfl,Nat.reduceMul,Nat.reduceEqDiff,Go.Addr.add,↓reduceIte] at hx295_0)
      have qi295 : (1 < l0.length) = True := eq_true (by omega)
      (try rw [show ((1 : Int)).toNat = 1 from rfl] at hx295_0)
      replace p295 := eq_true p295
      replace q295 := eq_true q295
      have p296 : 0 ≤ (2 : Int) := (by omega)
      have q296 : 2 < (l0.length : Int) := of_decide_eq_true (by first | (with_reducible assumption) | assumption)
      obtain ⟨ad296, e296, hx296_0⟩ := Kd.at_int HR0.out 2 p296 q296
      obtain rfl : ad294 = ad296 := (by injection e296)
      (try simp only [show (2 : Int).toNat = 2 from rfl,Nat.reduceMul,Nat.reduceEqDiff,Go.Addr.add,↓reduceIte] at hx296_0)
      have qi296 : (2 < l0.length) = True := eq_true (by omega)
      (try rw [show ((2 : Int)).toNat = 2 from rfl] at hx296_0)
      replace p296 := eq_true p296
      replace q296 := eq_true q296
      have p297 : 0 ≤ (3 : Int) := (by omega)
      have q297 : 3 < (l0.length : Int) := of_decide_eq_true (by first | (with_reducible assumption) | assumption)
      obtain ⟨ad297, e297, hx297_0⟩ := Kd.at_int HR0.out 3 p297 q297
      obtain rfl : ad294 = ad297 := (by injection e297)
      (try simp only [show (3 : Int).toNat = 3 from rfl,Nat.reduceMul,Nat.reduceEqDiff,Go.Addr.add,↓reduceIte] at hx297_0)
      have qi297 : (3 < l0.length) = True := eq_true (by omega)
      (try rw [show ((3 : Int)).toNat = 3 from rfl] at hx297_0)
      replace p297 := eq_true p297
      replace q297 := eq_true q297
      go_enter Try.func44, Try.ntmps44
      go_wp2
      repeat (go_quiet (fail); try go_wp2)
      go_ret2
      exact ⟨by first|rfl|(simp;done)|(simp [*];done),by repeat (first|exact Drawn0.refl _|apply Drawn0.step)⟩
     ·rw [if_neg c6] at H
      exact absurd H (by simp)
    ·rw [if_neg c5] at H
     exact absurd H (by simp)
   ·rw [if_neg c4] at H
    exact absurd H (by simp)
  ·rw [if_neg c3] at H
   exact absurd H (by simp)


/-! ### strakeref05_Unpack: function 28 -/
def strakeref05_Unpack.j0 : Nat → List Int → List Int → Bool → Option (Int × Int × Int × Int)
 | 0, _, _, _ => none
 | k + 1,x0,x1,x22 => if x22 = true then (some (0,0,0,3)) else (if 1 ≤ (x0.length : Int) then ((strakeref02_TakeFixed.f (x0.drop 1)).bind fun bt303 => (if 5 ≤ (x0.length : Int) then ((strakeref02_TakeFixed.f (x0.drop 5)).bind fun bt309 => (if 9 ≤ (x0.length : Int) then ((strakeref02_TakeFixed.f (x0.drop 9)).bind fun bt315 => (if bt315.1 > 262144 then (some (0,0,0,3)) else (if 0 < (x0.length : Int) then ((strakeref05_Pack.f k (wrap64 (rd x0 0)) (wrap64 (bt303.1)) (wrap64 ((wrap64 ((wrap64 (bt315.1)) * 4294967296)) + (wrap64 (bt309.1)))) x1).bind fun bt319 => (if bt319.2 = 0 then (if (strOfNums bt319.1).toList = (strOfNums x0).toList then (some (wrap64 (rd x0 0),wrap64 (bt303.1),wrap64 ((wrap64 ((wrap64 (bt315.1)) * 4294967296)) + (wrap64 (bt309.1))),0)) else (some (0,0,0,4))) else (some (0,0,0,3)))) else (none)))) else (none))) else (none))) else (none))
def strakeref05_Unpack.f (k : Nat) (l0 : List Int) (l1 : List Int) : Option (Int × Int × Int × Int) := if (l0.length : Int) = 17 then (strakeref05_Unpack.j0 k l0 l1 ((l1.length : Int) != 16)) else (strakeref05_Unpack.j0 k l0 l1 true)
theorem strakeref05_Unpack.mono_l : ∀ k,(∀ y0 y1 y2,LeO (strakeref05_Unpack.j0 k y0 y1 y2) (strakeref05_Unpack.j0 (k + 1) y0 y1 y2))
 | 0 => fun _ _ _ r h => by simp [strakeref05_Unpack.j0] at h
 | k + 1 => by
  have ih0 := strakeref05_Unpack.mono_l k
  ·intro y0 y1 y2
   unfold strakeref05_Unpack.j0
   repeat' first
   | (with_reducible exact ih0 _ _ _)
   | (with_reducible exact strakeref05_Pack.mono _ _ _ _ _)
   | (with_reducible exact LeO.refl _)
   | (with_reducible exact LeO.none _)
   | (with_reducible refine LeO.ite ?_ ?_)
   | (with_reducible refine LeO.bind ?_ (fun _ => ?_))
   | exact ih0 _ _ _
   | exact strakeref05_Pack.mono _ _ _ _ _
   | exact LeO.none _
   | refine LeO.ite ?_ ?_
   | refine LeO.bind ?_ (fun _ => ?_)
theorem strakeref05_Unpack.mono : ∀ a0 a1 k,LeO (strakeref05_Unpack.f k a0 a1) (strakeref05_Unpack.f (k + 1) a0 a1) := by
 intro a0 a1 k
 have ih0 := strakeref05_Unpack.mono_l k
 unfold strakeref05_Unpack.f
 repeat' first
   | (with_reducible exact ih0 _ _ _)
   | (with_reducible exact strakeref05_Pack.mono _ _ _ _ _)
   | (with_reducible exact LeO.refl _)
   | (with_reducible exact LeO.none _)
   | (with_reducible refine LeO.ite ?_ ?_)
   | (with_reducible refine LeO.bind ?_ (fun _ => ?_))
   | exact ih0 _ _ _
   | exact strakeref05_Pack.mono _ _ _ _ _
   | exact LeO.none _
   | refine LeO.ite ?_ ?_
   | refine LeO.bind ?_ (fun _ => ?_)
set_option maxHeartbeats 8000000 in
set_option maxRecDepth 100000 in
theorem strakeref05_Unpack.calls (k : Nat) (A0 : Option Addr) (c0 : Nat) (l0 : List Int) (A1 : Option Addr) (c1 : Nat) (l1 : List Int) (r1 : Int) (r2 : Int) (r3 : Int) (r4 : Int) (w : World) (hr0 : Kd.C (Kd.int .u8) w A0 l0.length l0) (hc0 : l0.length ≤ c0) (hr1 : Kd.C (Kd.int .u8) w A1 l1.length l1) (hc1 : l1.length ≤ c1) (h : strakeref05_Unpack.f k l0 l1 = some (r1,r2,r3,r4)) :
  Calls Try.prog 28 #[.slice A0 l0.length c0,.slice A1 l1.length c1] w fun e w' => e = .returned (.tuple #[.agg #[.int .i64 r1,.int .i64 r2,.int .i64 r3],.int .i64 r4]) ∧ Below w.heap.size w w' := by
 have hu40 := Try.underlying40
 have HR0 := Aside0.mk hr0
 have HC0 := Aside0.mk hc0
 clear hr0 hc0
 have HR1 := Aside0.mk hr1
 have HC1 := Aside0.mk hc1
 clear hr1 hc1
 have HB := Aside0.mk (Below.refl w.heap.size w)
 have H : (if (l0.length : Int) = 17 then (strakeref05_Unpack.j0 k l0 l1 ((l1.length : Int) != 16)) else (strakeref05_Unpack.j0 k l0 l1 true)) = some (r1,r2,r3,r4) := h
 clear h
 have HC3 := Aside0.mk H
 clear H
 go_enter Try.func28, Try.ntmps28
 go_upto_region 1 with (first|((with_reducible refine gate_dst (N := 4) rfl ?_);(try (refine gate_guard (by rfl) ?_;dsimp only));refine box_event ?hg (N := 4) ?hd (cs := #[.int .i64 0,.int .i64 0,.int .i64 0]) (t := 40) ?hr ?_;(case hd => rfl);(case hg => rfl);(case hr => first|(go_simp;done)|(go_simp;rfl));intro gb298 hg w4 hbox hb;have n0_ := Aside0.mk (below_step (by repeat (first|(with_reducible first|exact HB.out|apply below_alloc|apply pw_below_drewN|apply below_drew1)|exact HB.out)) hb);have n1_ := Aside0.mk (hbox);have n2_ := Aside0.mk ((by rw [hg];exact (below_size (by repeat (first|(with_reducible first|exact HB.out|apply below_alloc|apply pw_below_drewN|apply below_drew1)|exact HB.out))) : w.heap.size ≤ gb298));have n3_ := Aside0.mk ((by rw [hg];exact (below_size (by repeat (first|(with_reducible first|exact HB.out|apply below_alloc|apply pw_below_drewN|apply below_drew1)|exact HB.out))) : w.heap.size ≤ gb298));clear HB;have HB := n0_;have BK298 := n1_;have GW298 := n2_;have GE298 := n3_;clear n0_ n1_ n2_ n3_;clear hb hbox hg))
 (try simp only [Act.put, List.setIfInBounds_toArray, List.set_cons_zero, List.set_cons_succ])
 go_cut [22] (fun v22 wc => ∃ (kq : Nat) (x22_2 : Bool),v22 = .bool x22_2 ∧ Aside0 (strakeref05_Unpack.j0 kq l0 l1 x22_2 = some (r1,r2,r3,r4)) ∧ Aside0 (kq ≤ k) ∧ Aside0 (wc.heap[gb298]? = some (.cells #[.int .i64 0,.int .i64 0,.int .i64 0] 40 (0,0))) ∧ Aside0 (Below w.heap.size w wc))
 case first =>
  have H := HC3.out
  clear HC3
  by_cases c5 : (l0.length : Int) = 17
  ·rw [if_pos c5] at H
   have c5b0 : ((l0.length : Int) == 17) = true := beq_iff_eq.mpr c5
   have c5b1 : ((l0.length : Int) != 17) = false := bne_eq_false_iff_eq.mpr c5
   clear c5
   (first | rw [c5b0] | (simp only [i64_w, i32_w]; rw [c5b0]) | skip)
   have H' := Aside0.mk H
   clear H
   go_wp2
   go_meet
   case rel => exact ⟨_,(((l1.length : Int) != 16)),(by first|rfl|(simp;done)|(simp [*];done)),H',⟨by first|omega|exact Nat.le_refl _⟩,⟨by (with_reducible repeat (first|refine blk_drewN ?_ _|refine blk_drew ?_|refine blk_alloc ?_ _));exact BK298.out⟩,⟨by repeat (first|(with_reducible first|exact HB.out|apply below_alloc|apply pw_below_drewN|apply below_drew1|refine below_set ?_ GE298.out)|exact HB.out)⟩⟩
  ·rw [if_neg c5] at H
   have c5b0 : ((l0.length : Int) == 17) = false := beq_eq_false_iff_ne.mpr c5
   have c5b1 : ((l0.length : Int) != 17) = true := bne_iff_ne.mpr c5
   (first | rw [c5b0] | (simp only [i64_w, i32_w]; rw [c5b0]) | skip)
   have H' := Aside0.mk H
   clear H
   go_wp2
   go_meet
   case rel => exact ⟨_,(true),(by first|rfl|(simp;done)|(simp [*];done)),H',⟨by first|omega|exact Nat.le_refl _⟩,⟨by (with_reducible repeat (first|refine blk_drewN ?_ _|refine blk_drew ?_|refine blk_alloc ?_ _));exact BK298.out⟩,⟨by repeat (first|(with_reducible first|exact HB.out|apply below_alloc|apply pw_below_drewN|apply below_drew1|refine below_set ?_ GE298.out)|exact HB.out)⟩⟩
 case rest =>
  clear HC3
  try clear c1
  try clear c2
  try clear p2
  try clear c5
  try clear c5b0
  try clear c5b1
  obtain ⟨kq, x22_2, rfl, HA, HJ2, BK298, HB⟩ := hcut
  cases kq with
  | zero => exact absurd HA.out (by simp [strakeref05_Unpack.j0])
  | succ kj2 =>
   have H := HA.out
   clear HA
   simp only [strakeref05_Unpack.j0] at H
   by_cases c6 : x22_2 = true
   ·subst c6
    have H1 : (some (0, 0, 0, 3)) = some (r1, r2, r3, r4) := by rw [if_pos rfl] at H; exact H
    clear H
    have H := H1
    clear H1
    simp only [Option.some.injEq, Prod.mk.injEq] at H
    obtain ⟨rfl, rfl, rfl, rfl⟩ := H
    have hcz7_0 : wc.cell? ⟨gb298, 0, none⟩ = some (.int .i64 0) := (blk_cell BK298.out 0).trans rfl
    have hcz7_1 : wc.cell? ⟨gb298, 1, none⟩ = some (.int .i64 0) := (blk_cell BK298.out 1).trans rfl
    have hcz7_2 : wc.cell? ⟨gb298, 2, none⟩ = some (.int .i64 0) := (blk_cell BK298.out 2).trans rfl
    have hfz7_0 := blk_frozen BK298.out 0
    have hfz7_1 := blk_frozen BK298.out 1
    have hfz7_2 := blk_frozen BK298.out 2
    go_wp2
    refine bodyPost_ret (results_ct rfl _ _ gb298 40 #[.int .i64 0,.int .i64 0,.int .i64 0] (0,0) _ rfl (by (with_reducible repeat (first|refine blk_drewN ?_ _|refine blk_drew ?_|refine blk_alloc ?_ _));refine blk_put (cs := #[.int .i64 0,.int .i64 0,.int .i64 0]) ?_ 2 _ rfl;(with_reducible repeat (first|refine blk_drewN ?_ _|refine blk_drew ?_|refine blk_alloc ?_ _));refine blk_put (cs := #[.int .i64 0,.int .i64 0,.int .i64 0]) ?_ 1 _ rfl;(with_reducible repeat (first|refine blk_drewN ?_ _|refine blk_drew ?_|refine blk_alloc ?_ _));refine blk_put (cs := #[.int .i64 0,.int .i64 0,.int .i64 0]) ?_ 0 _ rfl;(with_reducible repeat (first|refine blk_drewN ?_ _|refine blk_drew ?_|refine blk_alloc ?_ _));exact BK298.out) Try.underlying40 rfl (by kernel_rfl)) rfl ?_
    exact ⟨by first|rfl|(simp [errW_none,errW_some] <;> rfl)|(simp [*,errW_none,errW_some] <;> rfl),by repeat (first|(with_reducible first|exact HB.out|apply below_alloc|apply pw_below_drewN|apply below_drew1|refine below_set ?_ GE298.out)|exact HB.out)⟩
   ·replace c6 := Bool.eq_false_iff.mpr c6
    subst c6
    have H1 : (if 1 ≤ (l0.length : Int) then ((strakeref02_TakeFixed.f (l0.drop 1)).bind fun bt303 => (if 5 ≤ (l0.length : Int) then ((strakeref02_TakeFixed.f (l0.drop 5)).bind fun bt309 => (if 9 ≤ (l0.length : Int) then ((strakeref02_TakeFixed.f (l0.drop 9)).bind fun bt315 => (if bt315.1 > 262144 then (some (0,0,0,3)) else (if 0 < (l0.length : Int) then ((strakeref05_Pack.f kj2 (wrap64 (rd l0 0)) (wrap64 (bt303.1)) (wrap64 ((wrap64 ((wrap64 (bt315.1)) * 4294967296)) + (wrap64 (bt309.1)))) l1).bind fun bt319 => (if bt319.2 = 0 then (if (strOfNums bt319.1).toList = (strOfNums l0).toList then (some (wrap64 (rd l0 0),wrap64 (bt303.1),wrap64 ((wrap64 ((wrap64 (bt315.1)) * 4294967296)) + (wrap64 (bt309.1))),0)) else (some (0,0,0,4))) else (some (0,0,0,3)))) else (none)))) else (none))) else (none))) else (none)) = some (r1,r2,r3,r4) := by rw [if_neg (show ¬ (false = true) by decide)] at H;exact H
    clear H
    have H := H1
    clear H1
    by_cases c8 : 1 ≤ (l0.length : Int)
    ·rw [if_pos c8] at H
     have c8b0 := eq_true c8
     have c8b1 : decide (1 ≤ (l0.length : Int)) = true := decide_eq_true c8
     clear c8
     obtain ⟨y299, hy299⟩ : ∃ y_ : List Int, y_ = (l0.drop 1) := ⟨_, rfl⟩
     replace H : ((strakeref02_TakeFixed.f y299).bind fun bt303 => (if 5 ≤ (l0.length : Int) then ((strakeref02_TakeFixed.f (l0.drop 5)).bind fun bt309 => (if 9 ≤ (l0.length : Int) then ((strakeref02_TakeFixed.f (l0.drop 9)).bind fun bt315 => (if bt315.1 > 262144 then (some (0,0,0,3)) else (if 0 < (l0.length : Int) then ((strakeref05_Pack.f kj2 (wrap64 (rd l0 0)) (wrap64 (bt303.1)) (wrap64 ((wrap64 ((wrap64 (bt315.1)) * 4294967296)) + (wrap64 (bt309.1)))) l1).bind fun bt319 => (if bt319.2 = 0 then (if (strOfNums bt319.1).toList = (strOfNums l0).toList then (some (wrap64 (rd l0 0),wrap64 (bt303.1),wrap64 ((wrap64 ((wrap64 (bt315.1)) * 4294967296)) + (wrap64 (bt309.1))),0)) else (some (0,0,0,4))) else (some (0,0,0,3)))) else (none)))) else (none))) else (none))) = some (r1,r2,r3,r4) := by first|(rw [hy299];with_reducible exact H)|(have H2_ := (Option.bind_some _ _).symm.trans H;rw [hy299];with_reducible exact H2_)|(have H2_ := (Option.bind_some _ _).symm.trans H;with_reducible exact H2_)|with_reducible exact H|(rw [hy299];exact H)|exact H
     have Ny299 := Aside0.mk hy299
     clear hy299
     replace H := Option.bind_eq_some_iff.mp H
     obtain ⟨⟨t303, t304⟩, A90, H⟩ := H
     replace H : (if 5 ≤ (l0.length : Int) then ((strakeref02_TakeFixed.f (l0.drop 5)).bind fun bt309 => (if 9 ≤ (l0.length : Int) then ((strakeref02_TakeFixed.f (l0.drop 9)).bind fun bt315 => (if bt315.1 > 262144 then (some (0,0,0,3)) else (if 0 < (l0.length : Int) then ((strakeref05_Pack.f kj2 (wrap64 (rd l0 0)) (wrap64 (t303)) (wrap64 ((wrap64 ((wrap64 (bt315.1)) * 4294967296)) + (wrap64 (bt309.1)))) l1).bind fun bt319 => (if bt319.2 = 0 then (if (strOfNums bt319.1).toList = (strOfNums l0).toList then (some (wrap64 (rd l0 0),wrap64 (t303),wrap64 ((wrap64 ((wrap64 (bt315.1)) * 4294967296)) + (wrap64 (bt309.1))),0)) else (some (0,0,0,4))) else (some (0,0,0,3)))) else (none)))) else (none))) else (none)) = some (r1,r2,r3,r4) := H
     have A9 := Aside0.mk A90
     clear A90
     by_cases c10 : 5 ≤ (l0.length : Int)
     ·rw [if_pos c10] at H
      have c10b0 := eq_true c10
      have c10b1 : decide (5 ≤ (l0.length : Int)) = true := decide_eq_true c10
      clear c10
      obtain ⟨y305, hy305⟩ : ∃ y_ : List Int, y_ = (l0.drop 5) := ⟨_, rfl⟩
      replace H : ((strakeref02_TakeFixed.f y305).bind fun bt309 => (if 9 ≤ (l0.length : Int) then ((strakeref02_TakeFixed.f (l0.drop 9)).bind fun bt315 => (if bt315.1 > 262144 then (some (0,0,0,3)) else (if 0 < (l0.length : Int) then ((strakeref05_Pack.f kj2 (wrap64 (rd l0 0)) (wrap64 (t303)) (wrap64 ((wrap64 ((wrap64 (bt315.1)) * 4294967296)) + (wrap64 (bt309.1)))) l1).bind fun bt319 => (if bt319.2 = 0 then (if (strOfNums bt319.1).toList = (strOfNums l0).toList then (some (wrap64 (rd l0 0),wrap64 (t303),wrap64 ((wrap64 ((wrap64 (bt315.1)) * 4294967296)) + (wrap64 (bt309.1))),0)) else (some (0,0,0,4))) else (some (0,0,0,3)))) else (none)))) else (none))) = some (r1,r2,r3,r4) := by first|(rw [hy305];with_reducible exact H)|(have H2_ := (Option.bind_some _ _).symm.trans H;rw [hy305];with_reducible exact H2_)|(have H2_ := (Option.bind_some _ _).symm.trans H;with_reducible exact H2_)|with_reducible exact H|(rw [hy305];exact H)|exact H
      have Ny305 := Aside0.mk hy305
      clear hy305
      replace H := Option.bind_eq_some_iff.mp H
      obtain ⟨⟨t309, t310⟩, A110, H⟩ := H
      replace H : (if 9 ≤ (l0.length : Int) then ((strakeref02_TakeFixed.f (l0.drop 9)).bind fun bt315 => (if bt315.1 > 262144 then (some (0,0,0,3)) else (if 0 < (l0.length : Int) then ((strakeref05_Pack.f kj2 (wrap64 (rd l0 0)) (wrap64 (t303)) (wrap64 ((wrap64 ((wrap64 (bt315.1)) * 4294967296)) + (wrap64 (t309)))) l1).bind fun bt319 => (if bt319.2 = 0 then (if (strOfNums bt319.1).toList = (strOfNums l0).toList then (some (wrap64 (rd l0 0),wrap64 (t303),wrap64 ((wrap64 ((wrap64 (bt315.1)) * 4294967296)) + (wrap64 (t309))),0)) else (some (0,0,0,4))) else (some (0,0,0,3)))) else (none)))) else (none)) = some (r1,r2,r3,r4) := H
      have A11 := Aside0.mk A110
      clear A110
      by_cases c12 : 9 ≤ (l0.length : Int)
      ·rw [if_pos c12] at H
       have c12b0 := eq_true c12
       have c12b1 : decide (9 ≤ (l0.length : Int)) = true := decide_eq_true c12
       clear c12
       obtain ⟨y311, hy311⟩ : ∃ y_ : List Int, y_ = (l0.drop 9) := ⟨_, rfl⟩
       replace H : ((strakeref02_TakeFixed.f y311).bind fun bt315 => (if bt315.1 > 262144 then (some (0,0,0,3)) else (if 0 < (l0.length : Int) then ((strakeref05_Pack.f kj2 (wrap64 (rd l0 0)) (wrap64 (t303)) (wrap64 ((wrap64 ((wrap64 (bt315.1)) * 4294967296)) + (wrap64 (t309)))) l1).bind fun bt319 => (if bt319.2 = 0 then (if (strOfNums bt319.1).toList = (strOfNums l0).toList then (some (wrap64 (rd l0 0),wrap64 (t303),wrap64 ((wrap64 ((wrap64 (bt315.1)) * 4294967296)) + (wrap64 (t309))),0)) else (some (0,0,0,4))) else (some (0,0,0,3)))) else (none)))) = some (r1,r2,r3,r4) := by first|(rw [hy311];with_reducible exact H)|(have H2_ := (Option.bind_some _ _).symm.trans H;rw [hy311];with_reducible exact H2_)|(have H2_ := (Option.bind_some _ _).symm.trans H;with_reducible exact H2_)|with_reducible exact H|(rw [hy311];exact H)|exact H
       have Ny311 := Aside0.mk hy311
       clear hy311
       replace H := Option.bind_eq_some_iff.mp H
       obtain ⟨⟨t315, t316⟩, A130, H⟩ := H
       replace H : (if t315 > 262144 then (some (0,0,0,3)) else (if 0 < (l0.length : Int) then ((strakeref05_Pack.f kj2 (wrap64 (rd l0 0)) (wrap64 (t303)) (wrap64 ((wrap64 ((wrap64 (t315)) * 4294967296)) + (wrap64 (t309)))) l1).bind fun bt319 => (if bt319.2 = 0 then (if (strOfNums bt319.1).toList = (strOfNums l0).toList then (some (wrap64 (rd l0 0),wrap64 (t303),wrap64 ((wrap64 ((wrap64 (t315)) * 4294967296)) + (wrap64 (t309))),0)) else (some (0,0,0,4))) else (some (0,0,0,3)))) else (none))) = some (r1,r2,r3,r4) := H
       have A13 := Aside0.mk A130
       clear A130
       by_cases c14 : t315 > 262144
       ·rw [if_pos c14] at H
        have c14b0 : decide (262144 < t315) = true := decide_eq_true c14
        clear c14
        simp only [Option.some.injEq, Prod.mk.injEq] at H
        obtain ⟨rfl, rfl, rfl, rfl⟩ := H
        have q15 : (1 : Int) ≤ ((l0.length : Int) : Int) := of_decide_eq_true (by first|(with_reducible assumption)|assumption)
        obtain ⟨i015, hi015, _, hsz15, _⟩ := info_parts info5
        have hroom15 : l0.length ≤ c0 := HC0.out
        have hC15 : Kd.C (Kd.int .u8) _ A0 l0.length l0 := HR0.out
        have hcut15 := cut_from (P := Try.prog) 36 5 .i64 Try.underlying36 hi015 1 hsz15 A0 l0.length c0 1 (by omega) q15
        have hr15 := Kd.C_drop (m := (1 : Int).toNat) (c := c0) hC15 (by omega) hroom15
        obtain ⟨A15,hA15⟩ : ∃ A1,A1 = (if c0 = (1 : Int).toNat then A0 else (A0 : Option Addr).map (·.add ((1 : Int).toNat * 1))) := ⟨_,rfl⟩
        obtain ⟨c15, hc15⟩ : ∃ c1, c1 = c0 - (1 : Int).toNat := ⟨_, rfl⟩
        have hy15 : y299.length = l0.length - (1 : Int).toNat := (by rw [Ny299.out, List.length_drop] <;> omega)
        rw [show (l0).drop (1 : Int).toNat = y299 from Ny299.out.symm] at hr15
        replace hr15 : Kd.C (Kd.int .u8) _ A15 y299.length y299 := (by rw [hA15]; exact hr15)
        rw [← hy15, ← hA15, ← hc15] at hcut15
        have HR302 := Aside0.mk hr15
        have HC302 := Aside0.mk (show y299.length ≤ c15 from by rw [hy15, hc15]; exact Nat.sub_le_sub_right hroom15 _)
        clear hr15 hC15 hroom15 hi015 hsz15 hc15
        have KY15 := Aside0.mk hy15
        have KA15 := Aside0.mk hA15
        clear hy15 hA15
        replace q15 := eq_true q15
        go_wp2_with (first|((with_reducible refine gate_callee (f := 44) rfl ?_);refine goesL_ (some 27) rfl rfl Try.func44 (by kernel_rfl) rfl #[.slice A15 y299.length c15] rfl (by (try simp only [List.map_toArray,List.map_cons,List.map_nil]);first|done|rfl|(simp only [List.length_drop,List.length_take];rfl)) ?_;(with_reducible refine (strakeref02_TakeFixed.calls _ _ y299 t303 t304 _ ?side1 ?side2 A9.out).mono ?_);(case side1 => repeat (first|exact (Kd.C_below HR302.out HB.out)|(with_reducible refine Kd.C_alloc ?_ _)|(with_reducible refine Kd.C_drewN ?_ _)|(with_reducible refine Kd.C_drew ?_)));(case side2 => exact HC302.out);rintro e w' ⟨rfl,⟨nd,rfl⟩⟩;refine ⟨_,rfl,?_⟩;(try (rw [drewN_self wc];generalize hq_ : World.drewN wc _ = wc;have n0_ : Aside0 (wc.heap[gb298]? = some (.cells #[.int .i64 0,.int .i64 0,.int .i64 0] 40 (0,0))) := ⟨by rw [← hq_];exact (by (with_reducible repeat (first|refine blk_drewN ?_ _|refine blk_drew ?_|refine blk_alloc ?_ _));exact BK298.out)⟩;have n1_ : Aside0 (Below w.heap.size w wc) := ⟨by rw [← hq_];exact (by repeat (first|(with_reducible first|exact HB.out|apply below_alloc|apply pw_below_drewN|apply below_drew1|refine below_set ?_ GE298.out)|exact HB.out))⟩;clear BK298 HB hq_;have BK298 := n0_;have HB := n1_;clear n0_ n1_));have q16 : (5 : Int) ≤ ((l0.length : Int) : Int) := of_decide_eq_true (by first|(with_reducible assumption)|assumption);obtain ⟨i016,hi016,_,hsz16,_⟩ := info_parts info5;have hroom16 : l0.length ≤ c0 := HC0.out;have hC16 : Kd.C (Kd.int .u8) _ A0 l0.length l0 := HR0.out;have hcut16 := cut_from (P := Try.prog) 36 5 .i64 Try.underlying36 hi016 1 hsz16 A0 l0.length c0 5 (by omega) q16;have hr16 := Kd.C_drop (m := (5 : Int).toNat) (c := c0) hC16 (by omega) hroom16;obtain ⟨A16,hA16⟩ : ∃ A1,A1 = (if c0 = (5 : Int).toNat then A0 else (A0 : Option Addr).map (·.add ((5 : Int).toNat * 1))) := ⟨_,rfl⟩;obtain ⟨c16,hc16⟩ : ∃ c1,c1 = c0 - (5 : Int).toNat := ⟨_,rfl⟩;have hy16 : y305.length = l0.length - (5 : Int).toNat := (by rw [Ny305.out,List.length_drop] <;> omega);rw [show (l0).drop (5 : Int).toNat = y305 from Ny305.out.symm] at hr16;replace hr16 : Kd.C (Kd.int .u8) _ A16 y305.length y305 := (by rw [hA16];exact hr16);rw [← hy16,← hA16,← hc16] at hcut16;have HR308 := Aside0.mk hr16;have HC308 := Aside0.mk (show y305.length ≤ c16 from by rw [hy16,hc16];exact Nat.sub_le_sub_right hroom16 _);clear hr16 hC16 hroom16 hi016 hsz16 hc16;have KY16 := Aside0.mk hy16;have KA16 := Aside0.mk hA16;clear hy16 hA16;replace q16 := eq_true q16)|((with_reducible refine gate_callee (f := 44) rfl ?_);refine goesL_ (some 33) rfl rfl Try.func44 (by kernel_rfl) rfl #[.slice A16 y305.length c16] rfl (by (try simp only [List.map_toArray,List.map_cons,List.map_nil]);first|done|rfl|(simp only [List.length_drop,List.length_take];rfl)) ?_;(with_reducible refine (strakeref02_TakeFixed.calls _ _ y305 t309 t310 _ ?side1 ?side2 A11.out).mono ?_);(case side1 => repeat (first|exact (Kd.C_below HR308.out HB.out)|(with_reducible refine Kd.C_alloc ?_ _)|(with_reducible refine Kd.C_drewN ?_ _)|(with_reducible refine Kd.C_drew ?_)));(case side2 => exact HC308.out);rintro e w' ⟨rfl,⟨nd,rfl⟩⟩;refine ⟨_,rfl,?_⟩;(try (rw [drewN_self wc];generalize hq_ : World.drewN wc _ = wc;have n0_ : Aside0 (wc.heap[gb298]? = some (.cells #[.int .i64 0,.int .i64 0,.int .i64 0] 40 (0,0))) := ⟨by rw [← hq_];exact (by (with_reducible repeat (first|refine blk_drewN ?_ _|refine blk_drew ?_|refine blk_alloc ?_ _));exact BK298.out)⟩;have n1_ : Aside0 (Below w.heap.size w wc) := ⟨by rw [← hq_];exact (by repeat (first|(with_reducible first|exact HB.out|apply below_alloc|apply pw_below_drewN|apply below_drew1|refine below_set ?_ GE298.out)|exact HB.out))⟩;clear BK298 HB hq_;have BK298 := n0_;have HB := n1_;clear n0_ n1_));have q17 : (9 : Int) ≤ ((l0.length : Int) : Int) := of_decide_eq_true (by first|(with_reducible assumption)|assumption);obtain ⟨i017,hi017,_,hsz17,_⟩ := info_parts info5;have hroom17 : l0.length ≤ c0 := HC0.out;have hC17 : Kd.C (Kd.int .u8) _ A0 l0.length l0 := HR0.out;have hcut17 := cut_from (P := Try.prog) 36 5 .i64 Try.underlying36 hi017 1 hsz17 A0 l0.length c0 9 (by omega) q17;have hr17 := Kd.C_drop (m := (9 : Int).toNat) (c := c0) hC17 (by omega) hroom17;obtain ⟨A17,hA17⟩ : ∃ A1,A1 = (if c0 = (9 : Int).toNat then A0 else (A0 : Option Addr).map (·.add ((9 : Int).toNat * 1))) := ⟨_,rfl⟩;obtain ⟨c17,hc17⟩ : ∃ c1,c1 = c0 - (9 : Int).toNat := ⟨_,rfl⟩;have hy17 : y311.length = l0.length - (9 : Int).toNat := (by rw [Ny311.out,List.length_drop] <;> omega);rw [show (l0).drop (9 : Int).toNat = y311 from Ny311.out.symm] at hr17;replace hr17 : Kd.C (Kd.int .u8) _ A17 y311.length y311 := (by rw [hA17];exact hr17);rw [← hy17,← hA17,← hc17] at hcut17;have HR314 := Aside0.mk hr17;have HC314 := Aside0.mk (show y311.length ≤ c17 from by rw [hy17,hc17];exact Nat.sub_le_sub_right hroom17 _);clear hr17 hC17 hroom17 hi017 hsz17 hc17;have KY17 := Aside0.mk hy17;have KA17 := Aside0.mk hA17;clear hy17 hA17;replace q17 := eq_true q17)|((with_reducible refine gate_callee (f := 44) rfl ?_);refine goesL_ (some 39) rfl rfl Try.func44 (by kernel_rfl) rfl #[.slice A17 y311.length c17] rfl (by (try simp only [List.map_toArray,List.map_cons,List.map_nil]);first|done|rfl|(simp only [List.length_drop,List.length_take];rfl)) ?_;(with_reducible refine (strakeref02_TakeFixed.calls _ _ y311 t315 t316 _ ?side1 ?side2 A13.out).mono ?_);(case side1 => repeat (first|exact (Kd.C_below HR314.out HB.out)|(with_reducible refine Kd.C_alloc ?_ _)|(with_reducible refine Kd.C_drewN ?_ _)|(with_reducible refine Kd.C_drew ?_)));(case side2 => exact HC314.out);rintro e w' ⟨rfl,⟨nd,rfl⟩⟩;refine ⟨_,rfl,?_⟩;(try (rw [drewN_self wc];generalize hq_ : World.drewN wc _ = wc;have n0_ : Aside0 (wc.heap[gb298]? = some (.cells #[.int .i64 0,.int .i64 0,.int .i64 0] 40 (0,0))) := ⟨by rw [← hq_];exact (by (with_reducible repeat (first|refine blk_drewN ?_ _|refine blk_drew ?_|refine blk_alloc ?_ _));exact BK298.out)⟩;have n1_ : Aside0 (Below w.heap.size w wc) := ⟨by rw [← hq_];exact (by repeat (first|(with_reducible first|exact HB.out|apply below_alloc|apply pw_below_drewN|apply below_drew1|refine below_set ?_ GE298.out)|exact HB.out))⟩;clear BK298 HB hq_;have BK298 := n0_;have HB := n1_;clear n0_ n1_));have hcz18_0 : wc.cell? ⟨gb298,0,none⟩ = some (.int .i64 0) := (blk_cell BK298.out 0).trans rfl;have hcz18_1 : wc.cell? ⟨gb298,1,none⟩ = some (.int .i64 0) := (blk_cell BK298.out 1).trans rfl;have hcz18_2 : wc.cell? ⟨gb298,2,none⟩ = some (.int .i64 0) := (blk_cell BK298.out 2).trans rfl;have hfz18_0 := blk_frozen BK298.out 0;have hfz18_1 := blk_frozen BK298.out 1;have hfz18_2 := blk_frozen BK298.out 2))
        refine bodyPost_ret (results_ct rfl _ _ gb298 40 #[.int .i64 0,.int .i64 0,.int .i64 0] (0,0) _ rfl (by (with_reducible repeat (first|refine blk_drewN ?_ _|refine blk_drew ?_|refine blk_alloc ?_ _));refine blk_put (cs := #[.int .i64 0,.int .i64 0,.int .i64 0]) ?_ 2 _ rfl;(with_reducible repeat (first|refine blk_drewN ?_ _|refine blk_drew ?_|refine blk_alloc ?_ _));refine blk_put (cs := #[.int .i64 0,.int .i64 0,.int .i64 0]) ?_ 1 _ rfl;(with_reducible repeat (first|refine blk_drewN ?_ _|refine blk_drew ?_|refine blk_alloc ?_ _));refine blk_put (cs := #[.int .i64 0,.int .i64 0,.int .i64 0]) ?_ 0 _ rfl;(with_reducible repeat (first|refine blk_drewN ?_ _|refine blk_drew ?_|refine blk_alloc ?_ _));exact BK298.out) Try.underlying40 rfl (by kernel_rfl)) rfl ?_
        exact ⟨by first|rfl|(simp [errW_none,errW_some] <;> rfl)|(simp [*,errW_none,errW_some] <;> rfl),by repeat (first|(with_reducible first|exact HB.out|apply below_alloc|apply pw_below_drewN|apply below_drew1|refine below_set ?_ GE298.out)|exact HB.out)⟩
       ·rw [if_neg c14] at H
        have c14b0 : decide (262144 < t315) = false := decide_eq_false c14
        clear c14
        by_cases c19 : 0 < (l0.length : Int)
        ·rw [if_pos c19] at H
         have c19b0 : decide (0 < (l0.length : Int)) = true := decide_eq_true c19
         have c19b1 : decide (0 < l0.length) = true := decide_eq_true (by omega)
         clear c19
         replace H := Option.bind_eq_some_iff.mp H
         obtain ⟨⟨t319, t322⟩, A200, H⟩ := H
         replace H : (if t322 = 0 then (if (strOfNums t319).toList = (strOfNums l0).toList then (some (wrap64 (rd l0 0),wrap64 (t303),wrap64 ((wrap64 ((wrap64 (t315)) * 4294967296)) + (wrap64 (t309))),0)) else (some (0,0,0,4))) else (some (0,0,0,3))) = some (r1,r2,r3,r4) := H
         have A20 := Aside0.mk A200
         clear A200
         by_cases c21 : t322 = 0
         ·rw [if_pos c21] at H
          have c21b0 : (t322 == 0) = true := beq_iff_eq.mpr c21
          have c21b1 : (t322 != 0) = false := bne_eq_false_iff_eq.mpr c21
          clear c21
          by_cases c22 : (strOfNums t319).toList = (strOfNums l0).toList
          ·rw [if_pos c22] at H
           have c22b0 : ((strOfNums t319).toList == (strOfNums l0).toList) = true := beq_iff_eq.mpr c22
           have c22b1 : ((strOfNums t319).toList != (strOfNums l0).toList) = false := bne_eq_false_iff_eq.mpr c22
           clear c22
           simp only [Option.some.injEq, Prod.mk.injEq] at H
           obtain ⟨rfl, rfl, rfl, rfl⟩ := H
           have q23 : (1 : Int) ≤ ((l0.length : Int) : Int) := of_decide_eq_true (by first|(with_reducible assumption)|assumption)
           obtain ⟨i023, hi023, _, hsz23, _⟩ := info_parts info5
           have hroom23 : l0.length ≤ c0 := HC0.out
           have hC23 : Kd.C (Kd.int .u8) _ A0 l0.length l0 := HR0.out
           have hcut23 := cut_from (P := Try.prog) 36 5 .i64 Try.underlying36 hi023 1 hsz23 A0 l0.length c0 1 (by omega) q23
           have hr23 := Kd.C_drop (m := (1 : Int).toNat) (c := c0) hC23 (by omega) hroom23
           obtain ⟨A23,hA23⟩ : ∃ A1,A1 = (if c0 = (1 : Int).toNat then A0 else (A0 : Option Addr).map (·.add ((1 : Int).toNat * 1))) := ⟨_,rfl⟩
           obtain ⟨c23, hc23⟩ : ∃ c1, c1 = c0 - (1 : Int).toNat := ⟨_, rfl⟩
           have hy23 : y299.length = l0.length - (1 : Int).toNat := (by rw [Ny299.out, List.length_drop] <;> omega)
           rw [show (l0).drop (1 : Int).toNat = y299 from Ny299.out.symm] at hr23
           replace hr23 : Kd.C (Kd.int .u8) _ A23 y299.length y299 := (by rw [hA23]; exact hr23)
           rw [← hy23, ← hA23, ← hc23] at hcut23
           have HR302 := Aside0.mk hr23
           have HC302 := Aside0.mk (show y299.length ≤ c23 from by rw [hy23,hc23];exact Nat.sub_le_sub_right hroom23 _)
           clear hr23 hC23 hroom23 hi023 hsz23 hc23
           have KY23 := Aside0.mk hy23
           have KA23 := Aside0.mk hA23
           clear hy23 hA23
           replace q23 := eq_true q23
           go_wp2_with (first|((with_reducible refine gate_callee (f := 44) rfl ?_);refine goesL_ (some 27) rfl rfl Try.func44 (by kernel_rfl) rfl #[.slice A23 y299.length c23] rfl (by (try simp only [List.map_toArray,List.map_cons,List.map_nil]);first|done|rfl|(simp only [List.length_drop,List.length_take];rfl)) ?_;(with_reducible refine (strakeref02_TakeFixed.calls _ _ y299 t303 t304 _ ?side1 ?side2 A9.out).mono ?_);(case side1 => repeat (first|exact (Kd.C_below HR302.out HB.out)|(with_reducible refine Kd.C_alloc ?_ _)|(with_reducible refine Kd.C_drewN ?_ _)|(with_reducible refine Kd.C_drew ?_)));(case side2 => exact HC302.out);rintro e w' ⟨rfl,⟨nd,rfl⟩⟩;refine ⟨_,rfl,?_⟩;(try (rw [drewN_self wc];generalize hq_ : World.drewN wc _ = wc;have n0_ : Aside0 (wc.heap[gb298]? = some (.cells #[.int .i64 0,.int .i64 0,.int .i64 0] 40 (0,0))) := ⟨by rw [← hq_];exact (by (with_reducible repeat (first|refine blk_drewN ?_ _|refine blk_drew ?_|refine blk_alloc ?_ _));exact BK298.out)⟩;have n1_ : Aside0 (Below w.heap.size w wc) := ⟨by rw [← hq_];exact (by repeat (first|(with_reducible first|exact HB.out|apply below_alloc|apply pw_below_drewN|apply below_drew1|refine below_set ?_ GE298.out)|exact HB.out))⟩;clear BK298 HB hq_;have BK298 := n0_;have HB := n1_;clear n0_ n1_));have q24 : (5 : Int) ≤ ((l0.length : Int) : Int) := of_decide_eq_true (by first|(with_reducible assumption)|assumption);obtain ⟨i024,hi024,_,hsz24,_⟩ := info_parts info5;have hroom24 : l0.length ≤ c0 := HC0.out;have hC24 : Kd.C (Kd.int .u8) _ A0 l0.length l0 := HR0.out;have hcut24 := cut_from (P := Try.prog) 36 5 .i64 Try.underlying36 hi024 1 hsz24 A0 l0.length c0 5 (by omega) q24;have hr24 := Kd.C_drop (m := (5 : Int).toNat) (c := c0) hC24 (by omega) hroom24;obtain ⟨A24,hA24⟩ : ∃ A1,A1 = (if c0 = (5 : Int).toNat then A0 else (A0 : Option Addr).map (·.add ((5 : Int).toNat * 1))) := ⟨_,rfl⟩;obtain ⟨c24,hc24⟩ : ∃ c1,c1 = c0 - (5 : Int).toNat := ⟨_,rfl⟩;have hy24 : y305.length = l0.length - (5 : Int).toNat := (by rw [Ny305.out,List.length_drop] <;> omega);rw [show (l0).drop (5 : Int).toNat = y305 from Ny305.out.symm] at hr24;replace hr24 : Kd.C (Kd.int .u8) _ A24 y305.length y305 := (by rw [hA24];exact hr24);rw [← hy24,← hA24,← hc24] at hcut24;have HR308 := Aside0.mk hr24;have HC308 := Aside0.mk (show y305.length ≤ c24 from by rw [hy24,hc24];exact Nat.sub_le_sub_right hroom24 _);clear hr24 hC24 hroom24 hi024 hsz24 hc24;have KY24 := Aside0.mk hy24;have KA24 := Aside0.mk hA24;clear hy24 hA24;replace q24 := eq_true q24)|((with_reducible refine gate_callee (f := 44) rfl ?_);refine goesL_ (some 33) rfl rfl Try.func44 (by kernel_rfl) rfl #[.slice A24 y305.length c24] rfl (by (try simp only [List.map_toArray,List.map_cons,List.map_nil]);first|done|rfl|(simp only [List.length_drop,List.length_take];rfl)) ?_;(with_reducible refine (strakeref02_TakeFixed.calls _ _ y305 t309 t310 _ ?side1 ?side2 A11.out).mono ?_);(case side1 => repeat (first|exact (Kd.C_below HR308.out HB.out)|(with_reducible refine Kd.C_alloc ?_ _)|(with_reducible refine Kd.C_drewN ?_ _)|(with_reducible refine Kd.C_drew ?_)));(case side2 => exact HC308.out);rintro e w' ⟨rfl,⟨nd,rfl⟩⟩;refine ⟨_,rfl,?_⟩;(try (rw [drewN_self wc];generalize hq_ : World.drewN wc _ = wc;have n0_ : Aside0 (wc.heap[gb298]? = some (.cells #[.int .i64 0,.int .i64 0,.int .i64 0] 40 (0,0))) := ⟨by rw [← hq_];exact (by (with_reducible repeat (first|refine blk_drewN ?_ _|refine blk_drew ?_|refine blk_alloc ?_ _));exact BK298.out)⟩;have n1_ : Aside0 (Below w.heap.size w wc) := ⟨by rw [← hq_];exact (by repeat (first|(with_reducible first|exact HB.out|apply below_alloc|apply pw_below_drewN|apply below_drew1|refine below_set ?_ GE298.out)|exact HB.out))⟩;clear BK298 HB hq_;have BK298 := n0_;have HB := n1_;clear n0_ n1_));have q25 : (9 : Int) ≤ ((l0.length : Int) : Int) := of_decide_eq_true (by first|(with_reducible assumption)|assumption);obtain ⟨i025,hi025,_,hsz25,_⟩ := info_parts info5;have hroom25 : l0.length ≤ c0 := HC0.out;have hC25 : Kd.C (Kd.int .u8) _ A0 l0.length l0 := HR0.out;have hcut25 := cut_from (P := Try.prog) 36 5 .i64 Try.underlying36 hi025 1 hsz25 A0 l0.length c0 9 (by omega) q25;have hr25 := Kd.C_drop (m := (9 : Int).toNat) (c := c0) hC25 (by omega) hroom25;obtain ⟨A25,hA25⟩ : ∃ A1,A1 = (if c0 = (9 : Int).toNat then A0 else (A0 : Option Addr).map (·.add ((9 : Int).toNat * 1))) := ⟨_,rfl⟩;obtain ⟨c25,hc25⟩ : ∃ c1,c1 = c0 - (9 : Int).toNat := ⟨_,rfl⟩;have hy25 : y311.length = l0.length - (9 : Int).toNat := (by rw [Ny311.out,List.length_drop] <;> omega);rw [show (l0).drop (9 : Int).toNat = y311 from Ny311.out.symm] at hr25;replace hr25 : Kd.C (Kd.int .u8) _ A25 y311.length y311 := (by rw [hA25];exact hr25);rw [← hy25,← hA25,← hc25] at hcut25;have HR314 := Aside0.mk hr25;have HC314 := Aside0.mk (show y311.length ≤ c25 from by rw [hy25,hc25];exact Nat.sub_le_sub_right hroom25 _);clear hr25 hC25 hroom25 hi025 hsz25 hc25;have KY25 := Aside0.mk hy25;have KA25 := Aside0.mk hA25;clear hy25 hA25;replace q25 := eq_true q25)|((with_reducible refine gate_callee (f := 44) rfl ?_);refine goesL_ (some 39) rfl rfl Try.func44 (by kernel_rfl) rfl #[.slice A25 y311.length c25] rfl (by (try simp only [List.map_toArray,List.map_cons,List.map_nil]);first|done|rfl|(simp only [List.length_drop,List.length_take];rfl)) ?_;(with_reducible refine (strakeref02_TakeFixed.calls _ _ y311 t315 t316 _ ?side1 ?side2 A13.out).mono ?_);(case side1 => repeat (first|exact (Kd.C_below HR314.out HB.out)|(with_reducible refine Kd.C_alloc ?_ _)|(with_reducible refine Kd.C_drewN ?_ _)|(with_reducible refine Kd.C_drew ?_)));(case side2 => exact HC314.out);rintro e w' ⟨rfl,⟨nd,rfl⟩⟩;refine ⟨_,rfl,?_⟩;(try (rw [drewN_self wc];generalize hq_ : World.drewN wc _ = wc;have n0_ : Aside0 (wc.heap[gb298]? = some (.cells #[.int .i64 0,.int .i64 0,.int .i64 0] 40 (0,0))) := ⟨by rw [← hq_];exact (by (with_reducible repeat (first|refine blk_drewN ?_ _|refine blk_drew ?_|refine blk_alloc ?_ _));exact BK298.out)⟩;have n1_ : Aside0 (Below w.heap.size w wc) := ⟨by rw [← hq_];exact (by repeat (first|(with_reducible first|exact HB.out|apply below_alloc|apply pw_below_drewN|apply below_drew1|refine below_set ?_ GE298.out)|exact HB.out))⟩;clear BK298 HB hq_;have BK298 := n0_;have HB := n1_;clear n0_ n1_));have p317 : 0 ≤ (0 : Int) := (by omega);have q317 : 0 < (l0.length : Int) := of_decide_eq_true (by first|(with_reducible assumption)|assumption);obtain ⟨ad317,e317,hx317_0⟩ := Kd.at_int HR0.out 0 p317 q317;cases e317;have qi317 : (0 < l0.length) = True := eq_true (by omega);(try rw [show ((0 : Int)).toNat = 0 from rfl] at hx317_0);(try rw [Addr.add_zero'] at hx317_0);replace hx317_0 := (HB.out.cell (World.block_lt_of_cell? w _ hx317_0)).trans hx317_0;replace p317 := eq_true p317;replace q317 := eq_true q317)|((with_reducible refine gate_dst (N := 12) rfl ?_);(try (refine gate_guard (by rfl) ?_;dsimp only));refine box_event ?hg (N := 12) ?hd (cs := #[.int .i64 0,.int .i64 0,.int .i64 0]) (t := 40) ?hr ?_;(case hd => rfl);(case hg => rfl);(case hr => first|(go_simp;done)|(go_simp;rfl));intro gb318 hg w26 hbox hb;have n0_ := Aside0.mk (blk_below (g := gb298) (o := .cells #[.int .i64 0,.int .i64 0,.int .i64 0] 40 (0,0)) (by (with_reducible repeat (first|refine blk_drewN ?_ _|refine blk_drew ?_|refine blk_alloc ?_ _));exact BK298.out) hb);have n1_ := Aside0.mk (below_step (by repeat (first|(with_reducible first|exact HB.out|apply below_alloc|apply pw_below_drewN|apply below_drew1|refine below_set ?_ GE298.out)|exact HB.out)) hb);have n2_ := Aside0.mk (hbox);have n3_ := Aside0.mk ((by rw [hg];exact (below_size (by repeat (first|(with_reducible first|exact HB.out|apply below_alloc|apply pw_below_drewN|apply below_drew1|refine below_set ?_ GE298.out)|exact HB.out))) : w.heap.size ≤ gb318));have n4_ := Aside0.mk ((by rw [hg];exact (below_size (by repeat (first|(with_reducible first|exact HB.out|apply below_alloc|apply pw_below_drewN|apply below_drew1|refine below_set ?_ GE298.out)|exact HB.out))) : w.heap.size ≤ gb318));have n5_ := Aside0.mk ((by rw [hg];exact Nat.ne_of_lt (blk_lt (g := gb298) (o := .cells #[.int .i64 0,.int .i64 0,.int .i64 0] 40 (0,0)) (by (with_reducible repeat (first|refine blk_drewN ?_ _|refine blk_drew ?_|refine blk_alloc ?_ _));exact BK298.out)) : gb298 ≠ gb318));have n6_ := Aside0.mk ((by rw [hg];exact Nat.ne_of_gt (blk_lt (g := gb298) (o := .cells #[.int .i64 0,.int .i64 0,.int .i64 0] 40 (0,0)) (by (with_reducible repeat (first|refine blk_drewN ?_ _|refine blk_drew ?_|refine blk_alloc ?_ _));exact BK298.out)) : gb318 ≠ gb298));clear BK298;clear HB;have BK298 := n0_;have HB := n1_;have BK318 := n2_;have GW318 := n3_;have GE318 := n4_;have NB298_318 := n5_;have NB318_298 := n6_;clear n0_ n1_ n2_ n3_ n4_ n5_ n6_;clear hb hbox hg;have hnb27 := NB318_298.out;have hnc27 := NB298_318.out;have hcz28_0 : w26.cell? ⟨gb318,0,none⟩ = some (.int .i64 0) := (blk_cell BK318.out 0).trans rfl;have hcz28_1 : w26.cell? ⟨gb318,1,none⟩ = some (.int .i64 0) := (blk_cell BK318.out 1).trans rfl;have hcz28_2 : w26.cell? ⟨gb318,2,none⟩ = some (.int .i64 0) := (blk_cell BK318.out 2).trans rfl;have hfz28_0 := blk_frozen BK318.out 0;have hfz28_1 := blk_frozen BK318.out 1;have hfz28_2 := blk_frozen BK318.out 2)|((with_reducible refine gate_callee (f := 25) rfl ?_);refine goesL_ (some 61) rfl rfl Try.func25 (by kernel_rfl) rfl #[.agg #[.int .i64 (wrap64 (rd l0 0)),.int .i64 (wrap64 (t303)),.int .i64 (wrap64 ((wrap64 ((wrap64 (t315)) * 4294967296)) + (wrap64 (t309))))],.slice A1 l1.length c1] rfl (by (try simp only [List.map_toArray,List.map_cons,List.map_nil]);first|done|rfl|(simp only [List.length_drop,List.length_take];rfl)) ?_;(with_reducible refine (strakeref05_Pack.calls kj2 (wrap64 (rd l0 0)) (wrap64 (t303)) (wrap64 ((wrap64 ((wrap64 (t315)) * 4294967296)) + (wrap64 (t309)))) _ _ l1 t319 t322 _ ?side1 ?side2 A20.out).mono ?_);(case side1 => exact Kd.C_below HR1.out (by repeat (first|(with_reducible first|exact HB.out|apply below_alloc|apply pw_below_drewN|apply below_drew1|refine below_set ?_ GE298.out|refine below_set ?_ GE318.out)|exact HB.out)));(case side2 => exact HC1.out);rintro e w29 ⟨v320,rfl,ho0,hb⟩;refine ⟨_,rfl,?_⟩;have n0_ := Aside0.mk (Kd.R_lower ho0 (below_size (by repeat (first|(with_reducible first|exact HB.out|apply below_alloc|apply pw_below_drewN|apply below_drew1|refine below_set ?_ GE298.out|refine below_set ?_ GE318.out)|exact HB.out))));have n1_ := Aside0.mk (blk_below (g := gb298) (o := .cells #[.int .i64 0,.int .i64 0,.int .i64 0] 40 (0,0)) (by (with_reducible repeat (first|refine blk_drewN ?_ _|refine blk_drew ?_|refine blk_alloc ?_ _));refine blk_far ?_ NB298_318.out _;(with_reducible repeat (first|refine blk_drewN ?_ _|refine blk_drew ?_|refine blk_alloc ?_ _));refine blk_far ?_ NB298_318.out _;(with_reducible repeat (first|refine blk_drewN ?_ _|refine blk_drew ?_|refine blk_alloc ?_ _));refine blk_far ?_ NB298_318.out _;(with_reducible repeat (first|refine blk_drewN ?_ _|refine blk_drew ?_|refine blk_alloc ?_ _));exact BK298.out) hb);have n2_ := Aside0.mk (blk_below (g := gb318) (o := .cells #[.int .i64 (wrap64 (rd l0 0)),.int .i64 (wrap64 (t303)),.int .i64 (wrap64 ((wrap64 ((wrap64 (t315)) * 4294967296)) + (wrap64 (t309))))] 40 (0,0)) (by (with_reducible repeat (first|refine blk_drewN ?_ _|refine blk_drew ?_|refine blk_alloc ?_ _));refine blk_put (cs := #[.int .i64 (wrap64 (rd l0 0)),.int .i64 (wrap64 (t303)),.int .i64 0]) ?_ 2 _ rfl;(with_reducible repeat (first|refine blk_drewN ?_ _|refine blk_drew ?_|refine blk_alloc ?_ _));refine blk_put (cs := #[.int .i64 (wrap64 (rd l0 0)),.int .i64 0,.int .i64 0]) ?_ 1 _ rfl;(with_reducible repeat (first|refine blk_drewN ?_ _|refine blk_drew ?_|refine blk_alloc ?_ _));refine blk_put (cs := #[.int .i64 0,.int .i64 0,.int .i64 0]) ?_ 0 _ rfl;(with_reducible repeat (first|refine blk_drewN ?_ _|refine blk_drew ?_|refine blk_alloc ?_ _));exact BK318.out) hb);have n3_ := Aside0.mk (below_step (by repeat (first|(with_reducible first|exact HB.out|apply below_alloc|apply pw_below_drewN|apply below_drew1|refine below_set ?_ GE298.out|refine below_set ?_ GE318.out)|exact HB.out)) hb);clear BK298;clear BK318;clear HB;have HO321 := n0_;have BK298 := n1_;have BK318 := n2_;have HB := n3_;clear n0_ n1_ n2_ n3_;(try clear hb);(try clear hb2);(try clear hk);(try clear hi);(try clear ho0);have hcv30 := own_string (P := Try.prog) Try.underlying36 Try.underlying5 Try.underlying9 (Kd.own_of_R HO321.out);have hcv31 := fun nq_ : Nat => own_string (P := Try.prog) Try.underlying36 Try.underlying5 Try.underlying9 (pw_own_drewN (Kd.own_of_R HO321.out) nq_);have hcv32 := Kd.C_string (P := Try.prog) (A := (some ad317)) (c := c0) Try.underlying36 Try.underlying5 Try.underlying9 (Kd.C_below HR0.out HB.out);have hcv33 := fun nq_ : Nat => Kd.C_string (P := Try.prog) (A := (some ad317)) (c := c0) Try.underlying36 Try.underlying5 Try.underlying9 (Kd.C_drewN (Kd.C_below HR0.out HB.out) nq_);have hcz34_0 : w29.cell? ⟨gb318,0,none⟩ = some (.int .i64 (wrap64 (rd l0 0))) := (blk_cell BK318.out 0).trans rfl;have hcz34_1 : w29.cell? ⟨gb318,1,none⟩ = some (.int .i64 (wrap64 (t303))) := (blk_cell BK318.out 1).trans rfl;have hcz34_2 : w29.cell? ⟨gb318,2,none⟩ = some (.int .i64 (wrap64 ((wrap64 ((wrap64 (t315)) * 4294967296)) + (wrap64 (t309))))) := (blk_cell BK318.out 2).trans rfl;have hfz34_0 := blk_frozen BK318.out 0;have hfz34_1 := blk_frozen BK318.out 1;have hfz34_2 := blk_frozen BK318.out 2;have hcz35_0 : w29.cell? ⟨gb298,0,none⟩ = some (.int .i64 0) := (blk_cell BK298.out 0).trans rfl;have hcz35_1 : w29.cell? ⟨gb298,1,none⟩ = some (.int .i64 0) := (blk_cell BK298.out 1).trans rfl;have hcz35_2 : w29.cell? ⟨gb298,2,none⟩ = some (.int .i64 0) := (blk_cell BK298.out 2).trans rfl;have hfz35_0 := blk_frozen BK298.out 0;have hfz35_1 := blk_frozen BK298.out 1;have hfz35_2 := blk_frozen BK298.out 2))
           refine bodyPost_ret (results_ct rfl _ _ gb298 40 #[.int .i64 (wrap64 (rd l0 0)),.int .i64 (wrap64 (t303)),.int .i64 (wrap64 ((wrap64 ((wrap64 (t315)) * 4294967296)) + (wrap64 (t309))))] (0,0) _ rfl (by (with_reducible repeat (first|refine blk_drewN ?_ _|refine blk_drew ?_|refine blk_alloc ?_ _));refine blk_put (cs := #[.int .i64 (wrap64 (rd l0 0)),.int .i64 (wrap64 (t303)),.int .i64 0]) ?_ 2 _ rfl;(with_reducible repeat (first|refine blk_drewN ?_ _|refine blk_drew ?_|refine blk_alloc ?_ _));refine blk_put (cs := #[.int .i64 (wrap64 (rd l0 0)),.int .i64 0,.int .i64 0]) ?_ 1 _ rfl;(with_reducible repeat (first|refine blk_drewN ?_ _|refine blk_drew ?_|refine blk_alloc ?_ _));refine blk_put (cs := #[.int .i64 0,.int .i64 0,.int .i64 0]) ?_ 0 _ rfl;(with_reducible repeat (first|refine blk_drewN ?_ _|refine blk_drew ?_|refine blk_alloc ?_ _));exact BK298.out) Try.underlying40 rfl (by kernel_rfl)) rfl ?_
           exact ⟨by first|rfl|(simp [errW_none,errW_some] <;> rfl)|(simp [*,errW_none,errW_some] <;> rfl),by repeat (first|(with_reducible first|exact HB.out|apply below_alloc|apply pw_below_drewN|apply below_drew1|refine below_set ?_ GE298.out|refine below_set ?_ GE318.out)|exact HB.out)⟩
          ·rw [if_neg c22] at H
           have c22b0 : ((strOfNums t319).toList == (strOfNums l0).toList) = false := beq_eq_false_iff_ne.mpr c22
           have c22b1 : ((strOfNums t319).toList != (strOfNums l0).toList) = true := bne_iff_ne.mpr c22
           simp only [Option.some.injEq, Prod.mk.injEq] at H
           obtain ⟨rfl, rfl, rfl, rfl⟩ := H
           have q36 : (1 : Int) ≤ ((l0.length : Int) : Int) := of_decide_eq_true (by first|(with_reducible assumption)|assumption)
           obtain ⟨i036, hi036, _, hsz36, _⟩ := info_parts info5
           have hroom36 : l0.length ≤ c0 := HC0.out
           have hC36 : Kd.C (Kd.int .u8) _ A0 l0.length l0 := HR0.out
           have hcut36 := cut_from (P := Try.prog) 36 5 .i64 Try.underlying36 hi036 1 hsz36 A0 l0.length c0 1 (by omega) q36
           have hr36 := Kd.C_drop (m := (1 : Int).toNat) (c := c0) hC36 (by omega) hroom36
           obtain ⟨A36,hA36⟩ : ∃ A1,A1 = (if c0 = (1 : Int).toNat then A0 else (A0 : Option Addr).map (·.add ((1 : Int).toNat * 1))) := ⟨_,rfl⟩
           obtain ⟨c36, hc36⟩ : ∃ c1, c1 = c0 - (1 : Int).toNat := ⟨_, rfl⟩
           have hy36 : y299.length = l0.length - (1 : Int).toNat := (by rw [Ny299.out, List.length_drop] <;> omega)
           rw [show (l0).drop (1 : Int).toNat = y299 from Ny299.out.symm] at hr36
           replace hr36 : Kd.C (Kd.int .u8) _ A36 y299.length y299 := (by rw [hA36]; exact hr36)
           rw [← hy36, ← hA36, ← hc36] at hcut36
           have HR302 := Aside0.mk hr36
           have HC302 := Aside0.mk (show y299.length ≤ c36 from by rw [hy36,hc36];exact Nat.sub_le_sub_right hroom36 _)
           clear hr36 hC36 hroom36 hi036 hsz36 hc36
           have KY36 := Aside0.mk hy36
           have KA36 := Aside0.mk hA36
           clear hy36 hA36
           replace q36 := eq_true q36
           go_wp2_with (first|((with_reducible refine gate_callee (f := 44) rfl ?_);refine goesL_ (some 27) rfl rfl Try.func44 (by kernel_rfl) rfl #[.slice A36 y299.length c36] rfl (by (try simp only [List.map_toArray,List.map_cons,List.map_nil]);first|done|rfl|(simp only [List.length_drop,List.length_take];rfl)) ?_;(with_reducible refine (strakeref02_TakeFixed.calls _ _ y299 t303 t304 _ ?side1 ?side2 A9.out).mono ?_);(case side1 => repeat (first|exact (Kd.C_below HR302.out HB.out)|(with_reducible refine Kd.C_alloc ?_ _)|(with_reducible refine Kd.C_drewN ?_ _)|(with_reducible refine Kd.C_drew ?_)));(case side2 => exact HC302.out);rintro e w' ⟨rfl,⟨nd,rfl⟩⟩;refine ⟨_,rfl,?_⟩;(try (rw [drewN_self wc];generalize hq_ : World.drewN wc _ = wc;have n0_ : Aside0 (wc.heap[gb298]? = some (.cells #[.int .i64 0,.int .i64 0,.int .i64 0] 40 (0,0))) := ⟨by rw [← hq_];exact (by (with_reducible repeat (first|refine blk_drewN ?_ _|refine blk_drew ?_|refine blk_alloc ?_ _));exact BK298.out)⟩;have n1_ : Aside0 (Below w.heap.size w wc) := ⟨by rw [← hq_];exact (by repeat (first|(with_reducible first|exact HB.out|apply below_alloc|apply pw_below_drewN|apply below_drew1|refine below_set ?_ GE298.out)|exact HB.out))⟩;clear BK298 HB hq_;have BK298 := n0_;have HB := n1_;clear n0_ n1_));have q37 : (5 : Int) ≤ ((l0.length : Int) : Int) := of_decide_eq_true (by first|(with_reducible assumption)|assumption);obtain ⟨i037,hi037,_,hsz37,_⟩ := info_parts info5;have hroom37 : l0.length ≤ c0 := HC0.out;have hC37 : Kd.C (Kd.int .u8) _ A0 l0.length l0 := HR0.out;have hcut37 := cut_from (P := Try.prog) 36 5 .i64 Try.underlying36 hi037 1 hsz37 A0 l0.length c0 5 (by omega) q37;have hr37 := Kd.C_drop (m := (5 : Int).toNat) (c := c0) hC37 (by omega) hroom37;obtain ⟨A37,hA37⟩ : ∃ A1,A1 = (if c0 = (5 : Int).toNat then A0 else (A0 : Option Addr).map (·.add ((5 : Int).toNat * 1))) := ⟨_,rfl⟩;obtain ⟨c37,hc37⟩ : ∃ c1,c1 = c0 - (5 : Int).toNat := ⟨_,rfl⟩;have hy37 : y305.length = l0.length - (5 : Int).toNat := (by rw [Ny305.out,List.length_drop] <;> omega);rw [show (l0).drop (5 : Int).toNat = y305 from Ny305.out.symm] at hr37;replace hr37 : Kd.C (Kd.int .u8) _ A37 y305.length y305 := (by rw [hA37];exact hr37);rw [← hy37,← hA37,← hc37] at hcut37;have HR308 := Aside0.mk hr37;have HC308 := Aside0.mk (show y305.length ≤ c37 from by rw [hy37,hc37];exact Nat.sub_le_sub_right hroom37 _);clear hr37 hC37 hroom37 hi037 hsz37 hc37;have KY37 := Aside0.mk hy37;have KA37 := Aside0.mk hA37;clear hy37 hA37;replace q37 := eq_true q37)|((with_reducible refine gate_callee (f := 44) rfl ?_);refine goesL_ (some 33) rfl rfl Try.func44 (by kernel_rfl) rfl #[.slice A37 y305.length c37] rfl (by (try simp only [List.map_toArray,List.map_cons,List.map_nil]);first|done|rfl|(simp only [List.length_drop,List.length_take];rfl)) ?_;(with_reducible refine (strakeref02_TakeFixed.calls _ _ y305 t309 t310 _ ?side1 ?side2 A11.out).mono ?_);(case side1 => repeat (first|exact (Kd.C_below HR308.out HB.out)|(with_reducible refine Kd.C_alloc ?_ _)|(with_reducible refine Kd.C_drewN ?_ _)|(with_reducible refine Kd.C_drew ?_)));(case side2 => exact HC308.out);rintro e w' ⟨rfl,⟨nd,rfl⟩⟩;refine ⟨_,rfl,?_⟩;(try (rw [drewN_self wc];generalize hq_ : World.drewN wc _ = wc;have n0_ : Aside0 (wc.heap[gb298]? = some (.cells #[.int .i64 0,.int .i64 0,.int .i64 0] 40 (0,0))) := ⟨by rw [← hq_];exact (by (with_reducible repeat (first|refine blk_drewN ?_ _|refine blk_drew ?_|refine blk_alloc ?_ _));exact BK298.out)⟩;have n1_ : Aside0 (Below w.heap.size w wc) := ⟨by rw [← hq_];exact (by repeat (first|(with_reducible first|exact HB.out|apply below_alloc|apply pw_below_drewN|apply below_drew1|refine below_set ?_ GE298.out)|exact HB.out))⟩;clear BK298 HB hq_;have BK298 := n0_;have HB := n1_;clear n0_ n1_));have q38 : (9 : Int) ≤ ((l0.length : Int) : Int) := of_decide_eq_true (by first|(with_reducible assumption)|assumption);obtain ⟨i038,hi038,_,hsz38,_⟩ := info_parts info5;have hroom38 : l0.length ≤ c0 := HC0.out;have hC38 : Kd.C (Kd.int .u8) _ A0 l0.length l0 := HR0.out;have hcut38 := cut_from (P := Try.prog) 36 5 .i64 Try.underlying36 hi038 1 hsz38 A0 l0.length c0 9 (by omega) q38;have hr38 := Kd.C_drop (m := (9 : Int).toNat) (c := c0) hC38 (by omega) hroom38;obtain ⟨A38,hA38⟩ : ∃ A1,A1 = (if c0 = (9 : Int).toNat then A0 else (A0 : Option Addr).map (·.add ((9 : Int).toNat * 1))) := ⟨_,rfl⟩;obtain ⟨c38,hc38⟩ : ∃ c1,c1 = c0 - (9 : Int).toNat := ⟨_,rfl⟩;have hy38 : y311.length = l0.length - (9 : Int).toNat := (by rw [Ny311.out,List.length_drop] <;> omega);rw [show (l0).drop (9 : Int).toNat = y311 from Ny311.out.symm] at hr38;replace hr38 : Kd.C (Kd.int .u8) _ A38 y311.length y311 := (by rw [hA38];exact hr38);rw [← hy38,← hA38,← hc38] at hcut38;have HR314 := Aside0.mk hr38;have HC314 := Aside0.mk (show y311.length ≤ c38 from by rw [hy38,hc38];exact Nat.sub_le_sub_right hroom38 _);clear hr38 hC38 hroom38 hi038 hsz38 hc38;have KY38 := Aside0.mk hy38;have KA38 := Aside0.mk hA38;clear hy38 hA38;replace q38 := eq_true q38)|((with_reducible refine gate_callee (f := 44) rfl ?_);refine goesL_ (some 39) rfl rfl Try.func44 (by kernel_rfl) rfl #[.slice A38 y311.length c38] rfl (by (try simp only [List.map_toArray,List.map_cons,List.map_nil]);first|done|rfl|(simp only [List.length_drop,List.length_take];rfl)) ?_;(with_reducible refine (strakeref02_TakeFixed.calls _ _ y311 t315 t316 _ ?side1 ?side2 A13.out).mono ?_);(case side1 => repeat (first|exact (Kd.C_below HR314.out HB.out)|(with_reducible refine Kd.C_alloc ?_ _)|(with_reducible refine Kd.C_drewN ?_ _)|(with_reducible refine Kd.C_drew ?_)));(case side2 => exact HC314.out);rintro e w' ⟨rfl,⟨nd,rfl⟩⟩;refine ⟨_,rfl,?_⟩;(try (rw [drewN_self wc];generalize hq_ : World.drewN wc _ = wc;have n0_ : Aside0 (wc.heap[gb298]? = some (.cells #[.int .i64 0,.int .i64 0,.int .i64 0] 40 (0,0))) := ⟨by rw [← hq_];exact (by (with_reducible repeat (first|refine blk_drewN ?_ _|refine blk_drew ?_|refine blk_alloc ?_ _));exact BK298.out)⟩;have n1_ : Aside0 (Below w.heap.size w wc) := ⟨by rw [← hq_];exact (by repeat (first|(with_reducible first|exact HB.out|apply below_alloc|apply pw_below_drewN|apply below_drew1|refine below_set ?_ GE298.out)|exact HB.out))⟩;clear BK298 HB hq_;have BK298 := n0_;have HB := n1_;clear n0_ n1_));have p317 : 0 ≤ (0 : Int) := (by omega);have q317 : 0 < (l0.length : Int) := of_decide_eq_true (by first|(with_reducible assumption)|assumption);obtain ⟨ad317,e317,hx317_0⟩ := Kd.at_int HR0.out 0 p317 q317;cases e317;have qi317 : (0 < l0.length) = True := eq_true (by omega);(try rw [show ((0 : Int)).toNat = 0 from rfl] at hx317_0);(try rw [Addr.add_zero'] at hx317_0);replace hx317_0 := (HB.out.cell (World.block_lt_of_cell? w _ hx317_0)).trans hx317_0;replace p317 := eq_true p317;replace q317 := eq_true q317)|((with_reducible refine gate_dst (N := 12) rfl ?_);(try (refine gate_guard (by rfl) ?_;dsimp only));refine box_event ?hg (N := 12) ?hd (cs := #[.int .i64 0,.int .i64 0,.int .i64 0]) (t := 40) ?hr ?_;(case hd => rfl);(case hg => rfl);(case hr => first|(go_simp;done)|(go_simp;rfl));intro gb318 hg w39 hbox hb;have n0_ := Aside0.mk (blk_below (g := gb298) (o := .cells #[.int .i64 0,.int .i64 0,.int .i64 0] 40 (0,0)) (by (with_reducible repeat (first|refine blk_drewN ?_ _|refine blk_drew ?_|refine blk_alloc ?_ _));exact BK298.out) hb);have n1_ := Aside0.mk (below_step (by repeat (first|(with_reducible first|exact HB.out|apply below_alloc|apply pw_below_drewN|apply below_drew1|refine below_set ?_ GE298.out)|exact HB.out)) hb);have n2_ := Aside0.mk (hbox);have n3_ := Aside0.mk ((by rw [hg];exact (below_size (by repeat (first|(with_reducible first|exact HB.out|apply below_alloc|apply pw_below_drewN|apply below_drew1|refine below_set ?_ GE298.out)|exact HB.out))) : w.heap.size ≤ gb318));have n4_ := Aside0.mk ((by rw [hg];exact (below_size (by repeat (first|(with_reducible first|exact HB.out|apply below_alloc|apply pw_below_drewN|apply below_drew1|refine below_set ?_ GE298.out)|exact HB.out))) : w.heap.size ≤ gb318));have n5_ := Aside0.mk ((by rw [hg];exact Nat.ne_of_lt (blk_lt (g := gb298) (o := .cells #[.int .i64 0,.int .i64 0,.int .i64 0] 40 (0,0)) (by (with_reducible repeat (first|refine blk_drewN ?_ _|refine blk_drew ?_|refine blk_alloc ?_ _));exact BK298.out)) : gb298 ≠ gb318));have n6_ := Aside0.mk ((by rw [hg];exact Nat.ne_of_gt (blk_lt (g := gb298) (o := .cells #[.int .i64 0,.int .i64 0,.int .i64 0] 40 (0,0)) (by (with_reducible repeat (first|refine blk_drewN ?_ _|refine blk_drew ?_|refine blk_alloc ?_ _));exact BK298.out)) : gb318 ≠ gb298));clear BK298;clear HB;have BK298 := n0_;have HB := n1_;have BK318 := n2_;have GW318 := n3_;have GE318 := n4_;have NB298_318 := n5_;have NB318_298 := n6_;clear n0_ n1_ n2_ n3_ n4_ n5_ n6_;clear hb hbox hg;have hnb40 := NB318_298.out;have hnc40 := NB298_318.out;have hcz41_0 : w39.cell? ⟨gb318,0,none⟩ = some (.int .i64 0) := (blk_cell BK318.out 0).trans rfl;have hcz41_1 : w39.cell? ⟨gb318,1,none⟩ = some (.int .i64 0) := (blk_cell BK318.out 1).trans rfl;have hcz41_2 : w39.cell? ⟨gb318,2,none⟩ = some (.int .i64 0) := (blk_cell BK318.out 2).trans rfl;have hfz41_0 := blk_frozen BK318.out 0;have hfz41_1 := blk_frozen BK318.out 1;have hfz41_2 := blk_frozen BK318.out 2)|((with_reducible refine gate_callee (f := 25) rfl ?_);refine goesL_ (some 61) rfl rfl Try.func25 (by kernel_rfl) rfl #[.agg #[.int .i64 (wrap64 (rd l0 0)),.int .i64 (wrap64 (t303)),.int .i64 (wrap64 ((wrap64 ((wrap64 (t315)) * 4294967296)) + (wrap64 (t309))))],.slice A1 l1.length c1] rfl (by (try simp only [List.map_toArray,List.map_cons,List.map_nil]);first|done|rfl|(simp only [List.length_drop,List.length_take];rfl)) ?_;(with_reducible refine (strakeref05_Pack.calls kj2 (wrap64 (rd l0 0)) (wrap64 (t303)) (wrap64 ((wrap64 ((wrap64 (t315)) * 4294967296)) + (wrap64 (t309)))) _ _ l1 t319 t322 _ ?side1 ?side2 A20.out).mono ?_);(case side1 => exact Kd.C_below HR1.out (by repeat (first|(with_reducible first|exact HB.out|apply below_alloc|apply pw_below_drewN|apply below_drew1|refine below_set ?_ GE298.out|refine below_set ?_ GE318.out)|exact HB.out)));(case side2 => exact HC1.out);rintro e w42 ⟨v320,rfl,ho0,hb⟩;refine ⟨_,rfl,?_⟩;have n0_ := Aside0.mk (Kd.R_lower ho0 (below_size (by repeat (first|(with_reducible first|exact HB.out|apply below_alloc|apply pw_below_drewN|apply below_drew1|refine below_set ?_ GE298.out|refine below_set ?_ GE318.out)|exact HB.out))));have n1_ := Aside0.mk (blk_below (g := gb298) (o := .cells #[.int .i64 0,.int .i64 0,.int .i64 0] 40 (0,0)) (by (with_reducible repeat (first|refine blk_drewN ?_ _|refine blk_drew ?_|refine blk_alloc ?_ _));refine blk_far ?_ NB298_318.out _;(with_reducible repeat (first|refine blk_drewN ?_ _|refine blk_drew ?_|refine blk_alloc ?_ _));refine blk_far ?_ NB298_318.out _;(with_reducible repeat (first|refine blk_drewN ?_ _|refine blk_drew ?_|refine blk_alloc ?_ _));refine blk_far ?_ NB298_318.out _;(with_reducible repeat (first|refine blk_drewN ?_ _|refine blk_drew ?_|refine blk_alloc ?_ _));exact BK298.out) hb);have n2_ := Aside0.mk (blk_below (g := gb318) (o := .cells #[.int .i64 (wrap64 (rd l0 0)),.int .i64 (wrap64 (t303)),.int .i64 (wrap64 ((wrap64 ((wrap64 (t315)) * 4294967296)) + (wrap64 (t309))))] 40 (0,0)) (by (with_reducible repeat (first|refine blk_drewN ?_ _|refine blk_drew ?_|refine blk_alloc ?_ _));refine blk_put (cs := #[.int .i64 (wrap64 (rd l0 0)),.int .i64 (wrap64 (t303)),.int .i64 0]) ?_ 2 _ rfl;(with_reducible repeat (first|refine blk_drewN ?_ _|refine blk_drew ?_|refine blk_alloc ?_ _));refine blk_put (cs := #[.int .i64 (wrap64 (rd l0 0)),.int .i64 0,.int .i64 0]) ?_ 1 _ rfl;(with_reducible repeat (first|refine blk_drewN ?_ _|refine blk_drew ?_|refine blk_alloc ?_ _));refine blk_put (cs := #[.int .i64 0,.int .i64 0,.int .i64 0]) ?_ 0 _ rfl;(with_reducible repeat (first|refine blk_drewN ?_ _|refine blk_drew ?_|refine blk_alloc ?_ _));exact BK318.out) hb);have n3_ := Aside0.mk (below_step (by repeat (first|(with_reducible first|exact HB.out|apply below_alloc|apply pw_below_drewN|apply below_drew1|refine below_set ?_ GE298.out|refine below_set ?_ GE318.out)|exact HB.out)) hb);clear BK298;clear BK318;clear HB;have HO321 := n0_;have BK298 := n1_;have BK318 := n2_;have HB := n3_;clear n0_ n1_ n2_ n3_;(try clear hb);(try clear hb2);(try clear hk);(try clear hi);(try clear ho0);have hcv43 := own_string (P := Try.prog) Try.underlying36 Try.underlying5 Try.underlying9 (Kd.own_of_R HO321.out);have hcv44 := fun nq_ : Nat => own_string (P := Try.prog) Try.underlying36 Try.underlying5 Try.underlying9 (pw_own_drewN (Kd.own_of_R HO321.out) nq_);have hcv45 := Kd.C_string (P := Try.prog) (A := (some ad317)) (c := c0) Try.underlying36 Try.underlying5 Try.underlying9 (Kd.C_below HR0.out HB.out);have hcv46 := fun nq_ : Nat => Kd.C_string (P := Try.prog) (A := (some ad317)) (c := c0) Try.underlying36 Try.underlying5 Try.underlying9 (Kd.C_drewN (Kd.C_below HR0.out HB.out) nq_);have hcz47_0 : w42.cell? ⟨gb298,0,none⟩ = some (.int .i64 0) := (blk_cell BK298.out 0).trans rfl;have hcz47_1 : w42.cell? ⟨gb298,1,none⟩ = some (.int .i64 0) := (blk_cell BK298.out 1).trans rfl;have hcz47_2 : w42.cell? ⟨gb298,2,none⟩ = some (.int .i64 0) := (blk_cell BK298.out 2).trans rfl;have hfz47_0 := blk_frozen BK298.out 0;have hfz47_1 := blk_frozen BK298.out 1;have hfz47_2 := blk_frozen BK298.out 2))
           refine bodyPost_ret (results_ct rfl _ _ gb298 40 #[.int .i64 0,.int .i64 0,.int .i64 0] (0,0) _ rfl (by (with_reducible repeat (first|refine blk_drewN ?_ _|refine blk_drew ?_|refine blk_alloc ?_ _));refine blk_put (cs := #[.int .i64 0,.int .i64 0,.int .i64 0]) ?_ 2 _ rfl;(with_reducible repeat (first|refine blk_drewN ?_ _|refine blk_drew ?_|refine blk_alloc ?_ _));refine blk_put (cs := #[.int .i64 0,.int .i64 0,.int .i64 0]) ?_ 1 _ rfl;(with_reducible repeat (first|refine blk_drewN ?_ _|refine blk_drew ?_|refine blk_alloc ?_ _));refine blk_put (cs := #[.int .i64 0,.int .i64 0,.int .i64 0]) ?_ 0 _ rfl;(with_reducible repeat (first|refine blk_drewN ?_ _|refine blk_drew ?_|refine blk_alloc ?_ _));exact BK298.out) Try.underlying40 rfl (by kernel_rfl)) rfl ?_
           exact ⟨by first|rfl|(simp [errW_none,errW_some] <;> rfl)|(simp [*,errW_none,errW_some] <;> rfl),by repeat (first|(with_reducible first|exact HB.out|apply below_alloc|apply pw_below_drewN|apply below_drew1|refine below_set ?_ GE298.out|refine below_set ?_ GE318.out)|exact HB.out)⟩
         ·rw [if_neg c21] at H
          have c21b0 : (t322 == 0) = false := beq_eq_false_iff_ne.mpr c21
          have c21b1 : (t322 != 0) = true := bne_iff_ne.mpr c21
          simp only [Option.some.injEq, Prod.mk.injEq] at H
          obtain ⟨rfl, rfl, rfl, rfl⟩ := H
          have q48 : (1 : Int) ≤ ((l0.length : Int) : Int) := of_decide_eq_true (by first|(with_reducible assumption)|assumption)
          obtain ⟨i048, hi048, _, hsz48, _⟩ := info_parts info5
          have hroom48 : l0.length ≤ c0 := HC0.out
          have hC48 : Kd.C (Kd.int .u8) _ A0 l0.length l0 := HR0.out
          have hcut48 := cut_from (P := Try.prog) 36 5 .i64 Try.underlying36 hi048 1 hsz48 A0 l0.length c0 1 (by omega) q48
          have hr48 := Kd.C_drop (m := (1 : Int).toNat) (c := c0) hC48 (by omega) hroom48
          obtain ⟨A48,hA48⟩ : ∃ A1,A1 = (if c0 = (1 : Int).toNat then A0 else (A0 : Option Addr).map (·.add ((1 : Int).toNat * 1))) := ⟨_,rfl⟩
          obtain ⟨c48, hc48⟩ : ∃ c1, c1 = c0 - (1 : Int).toNat := ⟨_, rfl⟩
          have hy48 : y299.length = l0.length - (1 : Int).toNat := (by rw [Ny299.out, List.length_drop] <;> omega)
          rw [show (l0).drop (1 : Int).toNat = y299 from Ny299.out.symm] at hr48
          replace hr48 : Kd.C (Kd.int .u8) _ A48 y299.length y299 := (by rw [hA48]; exact hr48)
          rw [← hy48, ← hA48, ← hc48] at hcut48
          have HR302 := Aside0.mk hr48
          have HC302 := Aside0.mk (show y299.length ≤ c48 from by rw [hy48, hc48]; exact Nat.sub_le_sub_right hroom48 _)
          clear hr48 hC48 hroom48 hi048 hsz48 hc48
          have KY48 := Aside0.mk hy48
          have KA48 := Aside0.mk hA48
          clear hy48 hA48
          replace q48 := eq_true q48
          go_wp2_with (first|((with_reducible refine gate_callee (f := 44) rfl ?_);refine goesL_ (some 27) rfl rfl Try.func44 (by kernel_rfl) rfl #[.slice A48 y299.length c48] rfl (by (try simp only [List.map_toArray,List.map_cons,List.map_nil]);first|done|rfl|(simp only [List.length_drop,List.length_take];rfl)) ?_;(with_reducible refine (strakeref02_TakeFixed.calls _ _ y299 t303 t304 _ ?side1 ?side2 A9.out).mono ?_);(case side1 => repeat (first|exact (Kd.C_below HR302.out HB.out)|(with_reducible refine Kd.C_alloc ?_ _)|(with_reducible refine Kd.C_drewN ?_ _)|(with_reducible refine Kd.C_drew ?_)));(case side2 => exact HC302.out);rintro e w' ⟨rfl,⟨nd,rfl⟩⟩;refine ⟨_,rfl,?_⟩;(try (rw [drewN_self wc];generalize hq_ : World.drewN wc _ = wc;have n0_ : Aside0 (wc.heap[gb298]? = some (.cells #[.int .i64 0,.int .i64 0,.int .i64 0] 40 (0,0))) := ⟨by rw [← hq_];exact (by (with_reducible repeat (first|refine blk_drewN ?_ _|refine blk_drew ?_|refine blk_alloc ?_ _));exact BK298.out)⟩;have n1_ : Aside0 (Below w.heap.size w wc) := ⟨by rw [← hq_];exact (by repeat (first|(with_reducible first|exact HB.out|apply below_alloc|apply pw_below_drewN|apply below_drew1|refine below_set ?_ GE298.out)|exact HB.out))⟩;clear BK298 HB hq_;have BK298 := n0_;have HB := n1_;clear n0_ n1_));have q49 : (5 : Int) ≤ ((l0.length : Int) : Int) := of_decide_eq_true (by first|(with_reducible assumption)|assumption);obtain ⟨i049,hi049,_,hsz49,_⟩ := info_parts info5;have hroom49 : l0.length ≤ c0 := HC0.out;have hC49 : Kd.C (Kd.int .u8) _ A0 l0.length l0 := HR0.out;have hcut49 := cut_from (P := Try.prog) 36 5 .i64 Try.underlying36 hi049 1 hsz49 A0 l0.length c0 5 (by omega) q49;have hr49 := Kd.C_drop (m := (5 : Int).toNat) (c := c0) hC49 (by omega) hroom49;obtain ⟨A49,hA49⟩ : ∃ A1,A1 = (if c0 = (5 : Int).toNat then A0 else (A0 : Option Addr).map (·.add ((5 : Int).toNat * 1))) := ⟨_,rfl⟩;obtain ⟨c49,hc49⟩ : ∃ c1,c1 = c0 - (5 : Int).toNat := ⟨_,rfl⟩;have hy49 : y305.length = l0.length - (5 : Int).toNat := (by rw [Ny305.out,List.length_drop] <;> omega);rw [show (l0).drop (5 : Int).toNat = y305 from Ny305.out.symm] at hr49;replace hr49 : Kd.C (Kd.int .u8) _ A49 y305.length y305 := (by rw [hA49];exact hr49);rw [← hy49,← hA49,← hc49] at hcut49;have HR308 := Aside0.mk hr49;have HC308 := Aside0.mk (show y305.length ≤ c49 from by rw [hy49,hc49];exact Nat.sub_le_sub_right hroom49 _);clear hr49 hC49 hroom49 hi049 hsz49 hc49;have KY49 := Aside0.mk hy49;have KA49 := Aside0.mk hA49;clear hy49 hA49;replace q49 := eq_true q49)|((with_reducible refine gate_callee (f := 44) rfl ?_);refine goesL_ (some 33) rfl rfl Try.func44 (by kernel_rfl) rfl #[.slice A49 y305.length c49] rfl (by (try simp only [List.map_toArray,List.map_cons,List.map_nil]);first|done|rfl|(simp only [List.length_drop,List.length_take];rfl)) ?_;(with_reducible refine (strakeref02_TakeFixed.calls _ _ y305 t309 t310 _ ?side1 ?side2 A11.out).mono ?_);(case side1 => repeat (first|exact (Kd.C_below HR308.out HB.out)|(with_reducible refine Kd.C_alloc ?_ _)|(with_reducible refine Kd.C_drewN ?_ _)|(with_reducible refine Kd.C_drew ?_)));(case side2 => exact HC308.out);rintro e w' ⟨rfl,⟨nd,rfl⟩⟩;refine ⟨_,rfl,?_⟩;(try (rw [drewN_self wc];generalize hq_ : World.drewN wc _ = wc;have n0_ : Aside0 (wc.heap[gb298]? = some (.cells #[.int .i64 0,.int .i64 0,.int .i64 0] 40 (0,0))) := ⟨by rw [← hq_];exact (by (with_reducible repeat (first|refine blk_drewN ?_ _|refine blk_drew ?_|refine blk_alloc ?_ _));exact BK298.out)⟩;have n1_ : Aside0 (Below w.heap.size w wc) := ⟨by rw [← hq_];exact (by repeat (first|(with_reducible first|exact HB.out|apply below_alloc|apply pw_below_drewN|apply below_drew1|refine below_set ?_ GE298.out)|exact HB.out))⟩;clear BK298 HB hq_;have BK298 := n0_;have HB := n1_;clear n0_ n1_));have q50 : (9 : Int) ≤ ((l0.length : Int) : Int) := of_decide_eq_true (by first|(with_reducible assumption)|assumption);obtain ⟨i050,hi050,_,hsz50,_⟩ := info_parts info5;have hroom50 : l0.length ≤ c0 := HC0.out;have hC50 : Kd.C (Kd.int .u8) _ A0 l0.length l0 := HR0.out;have hcut50 := cut_from (P := Try.prog) 36 5 .i64 Try.underlying36 hi050 1 hsz50 A0 l0.length c0 9 (by omega) q50;have hr50 := Kd.C_drop (m := (9 : Int).toNat) (c := c0) hC50 (by omega) hroom50;obtain ⟨A50,hA50⟩ : ∃ A1,A1 = (if c0 = (9 : Int).toNat then A0 else (A0 : Option Addr).map (·.add ((9 : Int).toNat * 1))) := ⟨_,rfl⟩;obtain ⟨c50,hc50⟩ : ∃ c1,c1 = c0 - (9 : Int).toNat := ⟨_,rfl⟩;have hy50 : y311.length = l0.length - (9 : Int).toNat := (by rw [Ny311.out,List.length_drop] <;> omega);rw [show (l0).drop (9 : Int).toNat = y311 from Ny311.out.symm] at hr50;replace hr50 : Kd.C (Kd.int .u8) _ A50 y311.length y311 := (by rw [hA50];exact hr50);rw [← hy50,← hA50,← hc50] at hcut50;have HR314 := Aside0.mk hr50;have HC314 := Aside0.mk (show y311.length ≤ c50 from by rw [hy50,hc50];exact Nat.sub_le_sub_right hroom50 _);clear hr50 hC50 hroom50 hi050 hsz50 hc50;have KY50 := Aside0.mk hy50;have KA50 := Aside0.mk hA50;clear hy50 hA50;replace q50 := eq_true q50)|((with_reducible refine gate_callee (f := 44) rfl ?_);refine goesL_ (some 39) rfl rfl Try.func44 (by kernel_rfl) rfl #[.slice A50 y311.length c50] rfl (by (try simp only [List.map_toArray,List.map_cons,List.map_nil]);first|done|rfl|(simp only [List.length_drop,List.length_take];rfl)) ?_;(with_reducible refine (strakeref02_TakeFixed.calls _ _ y311 t315 t316 _ ?side1 ?side2 A13.out).mono ?_);(case side1 => repeat (first|exact (Kd.C_below HR314.out HB.out)|(with_reducible refine Kd.C_alloc ?_ _)|(with_reducible refine Kd.C_drewN ?_ _)|(with_reducible refine Kd.C_drew ?_)));(case side2 => exact HC314.out);rintro e w' ⟨rfl,⟨nd,rfl⟩⟩;refine ⟨_,rfl,?_⟩;(try (rw [drewN_self wc];generalize hq_ : World.drewN wc _ = wc;have n0_ : Aside0 (wc.heap[gb298]? = some (.cells #[.int .i64 0,.int .i64 0,.int .i64 0] 40 (0,0))) := ⟨by rw [← hq_];exact (by (with_reducible repeat (first|refine blk_drewN ?_ _|refine blk_drew ?_|refine blk_alloc ?_ _));exact BK298.out)⟩;have n1_ : Aside0 (Below w.heap.size w wc) := ⟨by rw [← hq_];exact (by repeat (first|(with_reducible first|exact HB.out|apply below_alloc|apply pw_below_drewN|apply below_drew1|refine below_set ?_ GE298.out)|exact HB.out))⟩;clear BK298 HB hq_;have BK298 := n0_;have HB := n1_;clear n0_ n1_));have p317 : 0 ≤ (0 : Int) := (by omega);have q317 : 0 < (l0.length : Int) := of_decide_eq_true (by first|(with_reducible assumption)|assumption);obtain ⟨ad317,e317,hx317_0⟩ := Kd.at_int HR0.out 0 p317 q317;cases e317;have qi317 : (0 < l0.length) = True := eq_true (by omega);(try rw [show ((0 : Int)).toNat = 0 from rfl] at hx317_0);(try rw [Addr.add_zero'] at hx317_0);replace hx317_0 := (HB.out.cell (World.block_lt_of_cell? w _ hx317_0)).trans hx317_0;replace p317 := eq_true p317;replace q317 := eq_true q317)|((with_reducible refine gate_dst (N := 12) rfl ?_);(try (refine gate_guard (by rfl) ?_;dsimp only));refine box_event ?hg (N := 12) ?hd (cs := #[.int .i64 0,.int .i64 0,.int .i64 0]) (t := 40) ?hr ?_;(case hd => rfl);(case hg => rfl);(case hr => first|(go_simp;done)|(go_simp;rfl));intro gb318 hg w51 hbox hb;have n0_ := Aside0.mk (blk_below (g := gb298) (o := .cells #[.int .i64 0,.int .i64 0,.int .i64 0] 40 (0,0)) (by (with_reducible repeat (first|refine blk_drewN ?_ _|refine blk_drew ?_|refine blk_alloc ?_ _));exact BK298.out) hb);have n1_ := Aside0.mk (below_step (by repeat (first|(with_reducible first|exact HB.out|apply below_alloc|apply pw_below_drewN|apply below_drew1|refine below_set ?_ GE298.out)|exact HB.out)) hb);have n2_ := Aside0.mk (hbox);have n3_ := Aside0.mk ((by rw [hg];exact (below_size (by repeat (first|(with_reducible first|exact HB.out|apply below_alloc|apply pw_below_drewN|apply below_drew1|refine below_set ?_ GE298.out)|exact HB.out))) : w.heap.size ≤ gb318));have n4_ := Aside0.mk ((by rw [hg];exact (below_size (by repeat (first|(with_reducible first|exact HB.out|apply below_alloc|apply pw_below_drewN|apply below_drew1|refine below_set ?_ GE298.out)|exact HB.out))) : w.heap.size ≤ gb318));have n5_ := Aside0.mk ((by rw [hg];exact Nat.ne_of_lt (blk_lt (g := gb298) (o := .cells #[.int .i64 0,.int .i64 0,.int .i64 0] 40 (0,0)) (by (with_reducible repeat (first|refine blk_drewN ?_ _|refine blk_drew ?_|refine blk_alloc ?_ _));exact BK298.out)) : gb298 ≠ gb318));have n6_ := Aside0.mk ((by rw [hg];exact Nat.ne_of_gt (blk_lt (g := gb298) (o := .cells #[.int .i64 0,.int .i64 0,.int .i64 0] 40 (0,0)) (by (with_reducible repeat (first|refine blk_drewN ?_ _|refine blk_drew ?_|refine blk_alloc ?_ _));exact BK298.out)) : gb318 ≠ gb298));clear BK298;clear HB;have BK298 := n0_;have HB := n1_;have BK318 := n2_;have GW318 := n3_;have GE318 := n4_;have NB298_318 := n5_;have NB318_298 := n6_;clear n0_ n1_ n2_ n3_ n4_ n5_ n6_;clear hb hbox hg;have hnb52 := NB318_298.out;have hnc52 := NB298_318.out;have hcz53_0 : w51.cell? ⟨gb318,0,none⟩ = some (.int .i64 0) := (blk_cell BK318.out 0).trans rfl;have hcz53_1 : w51.cell? ⟨gb318,1,none⟩ = some (.int .i64 0) := (blk_cell BK318.out 1).trans rfl;have hcz53_2 : w51.cell? ⟨gb318,2,none⟩ = some (.int .i64 0) := (blk_cell BK318.out 2).trans rfl;have hfz53_0 := blk_frozen BK318.out 0;have hfz53_1 := blk_frozen BK318.out 1;have hfz53_2 := blk_frozen BK318.out 2)|((with_reducible refine gate_callee (f := 25) rfl ?_);refine goesL_ (some 61) rfl rfl Try.func25 (by kernel_rfl) rfl #[.agg #[.int .i64 (wrap64 (rd l0 0)),.int .i64 (wrap64 (t303)),.int .i64 (wrap64 ((wrap64 ((wrap64 (t315)) * 4294967296)) + (wrap64 (t309))))],.slice A1 l1.length c1] rfl (by (try simp only [List.map_toArray,List.map_cons,List.map_nil]);first|done|rfl|(simp only [List.length_drop,List.length_take];rfl)) ?_;(with_reducible refine (strakeref05_Pack.calls kj2 (wrap64 (rd l0 0)) (wrap64 (t303)) (wrap64 ((wrap64 ((wrap64 (t315)) * 4294967296)) + (wrap64 (t309)))) _ _ l1 t319 t322 _ ?side1 ?side2 A20.out).mono ?_);(case side1 => exact Kd.C_below HR1.out (by repeat (first|(with_reducible first|exact HB.out|apply below_alloc|apply pw_below_drewN|apply below_drew1|refine below_set ?_ GE298.out|refine below_set ?_ GE318.out)|exact HB.out)));(case side2 => exact HC1.out);rintro e w54 ⟨v320,rfl,ho0,hb⟩;refine ⟨_,rfl,?_⟩;have n0_ := Aside0.mk (Kd.R_lower ho0 (below_size (by repeat (first|(with_reducible first|exact HB.out|apply below_alloc|apply pw_below_drewN|apply below_drew1|refine below_set ?_ GE298.out|refine below_set ?_ GE318.out)|exact HB.out))));have n1_ := Aside0.mk (blk_below (g := gb298) (o := .cells #[.int .i64 0,.int .i64 0,.int .i64 0] 40 (0,0)) (by (with_reducible repeat (first|refine blk_drewN ?_ _|refine blk_drew ?_|refine blk_alloc ?_ _));refine blk_far ?_ NB298_318.out _;(with_reducible repeat (first|refine blk_drewN ?_ _|refine blk_drew ?_|refine blk_alloc ?_ _));refine blk_far ?_ NB298_318.out _;(with_reducible repeat (first|refine blk_drewN ?_ _|refine blk_drew ?_|refine blk_alloc ?_ _));refine blk_far ?_ NB298_318.out _;(with_reducible repeat (first|refine blk_drewN ?_ _|refine blk_drew ?_|refine blk_alloc ?_ _));exact BK298.out) hb);have n2_ := Aside0.mk (blk_below (g := gb318) (o := .cells #[.int .i64 (wrap64 (rd l0 0)),.int .i64 (wrap64 (t303)),.int .i64 (wrap64 ((wrap64 ((wrap64 (t315)) * 4294967296)) + (wrap64 (t309))))] 40 (0,0)) (by (with_reducible repeat (first|refine blk_drewN ?_ _|refine blk_drew ?_|refine blk_alloc ?_ _));refine blk_put (cs := #[.int .i64 (wrap64 (rd l0 0)),.int .i64 (wrap64 (t303)),.int .i64 0]) ?_ 2 _ rfl;(with_reducible repeat (first|refine blk_drewN ?_ _|refine blk_drew ?_|refine blk_alloc ?_ _));refine blk_put (cs := #[.int .i64 (wrap64 (rd l0 0)),.int .i64 0,.int .i64 0]) ?_ 1 _ rfl;(with_reducible repeat (first|refine blk_drewN ?_ _|refine blk_drew ?_|refine blk_alloc ?_ _));refine blk_put (cs := #[.int .i64 0,.int .i64 0,.int .i64 0]) ?_ 0 _ rfl;(with_reducible repeat (first|refine blk_drewN ?_ _|refine blk_drew ?_|refine blk_alloc ?_ _));exact BK318.out) hb);have n3_ := Aside0.mk (below_step (by repeat (first|(with_reducible first|exact HB.out|apply below_alloc|apply pw_below_drewN|apply below_drew1|refine below_set ?_ GE298.out|refine below_set ?_ GE318.out)|exact HB.out)) hb);clear BK298;clear BK318;clear HB;have HO321 := n0_;have BK298 := n1_;have BK318 := n2_;have HB := n3_;clear n0_ n1_ n2_ n3_;(try clear hb);(try clear hb2);(try clear hk);(try clear hi);(try clear ho0);have hcz55_0 : w54.cell? ⟨gb298,0,none⟩ = some (.int .i64 0) := (blk_cell BK298.out 0).trans rfl;have hcz55_1 : w54.cell? ⟨gb298,1,none⟩ = some (.int .i64 0) := (blk_cell BK298.out 1).trans rfl;have hcz55_2 : w54.cell? ⟨gb298,2,none⟩ = some (.int .i64 0) := (blk_cell BK298.out 2).trans rfl;have hfz55_0 := blk_frozen BK298.out 0;have hfz55_1 := blk_frozen BK298.out 1;have hfz55_2 := blk_frozen BK298.out 2))
          refine bodyPost_ret (results_ct rfl _ _ gb298 40 #[.int .i64 0,.int .i64 0,.int .i64 0] (0,0) _ rfl (by (with_reducible repeat (first|refine blk_drewN ?_ _|refine blk_drew ?_|refine blk_alloc ?_ _));refine blk_put (cs := #[.int .i64 0,.int .i64 0,.int .i64 0]) ?_ 2 _ rfl;(with_reducible repeat (first|refine blk_drewN ?_ _|refine blk_drew ?_|refine blk_alloc ?_ _));refine blk_put (cs := #[.int .i64 0,.int .i64 0,.int .i64 0]) ?_ 1 _ rfl;(with_reducible repeat (first|refine blk_drewN ?_ _|refine blk_drew ?_|refine blk_alloc ?_ _));refine blk_put (cs := #[.int .i64 0,.int .i64 0,.int .i64 0]) ?_ 0 _ rfl;(with_reducible repeat (first|refine blk_drewN ?_ _|refine blk_drew ?_|refine blk_alloc ?_ _));exact BK298.out) Try.underlying40 rfl (by kernel_rfl)) rfl ?_
          exact ⟨by first|rfl|(simp [errW_none,errW_some] <;> rfl)|(simp [*,errW_none,errW_some] <;> rfl),by repeat (first|(with_reducible first|exact HB.out|apply below_alloc|apply pw_below_drewN|apply below_drew1|refine below_set ?_ GE298.out|refine below_set ?_ GE318.out)|exact HB.out)⟩
        ·rw [if_neg c19] at H
         exact absurd H (by simp)
      ·rw [if_neg c12] at H
       exact absurd H (by simp)
     ·rw [if_neg c10] at H
      exact absurd H (by simp)
    ·rw [if_neg c8] at H
     exact absurd H (by simp)


/-! ### strakeref15_Read: function 17 -/
mutual
def strakeref15_Read.l0 : Nat → List (List Int) → List (List Int) → List (S42) → Int → Option ((List (S42)))
 | 0, _, _, _, _ => none
 | k + 1,x0,x1,x5,x6 => if x6 < (x0.length : Int) then (strakeref15_Read.j1 k x0 x1 x5 x6 (decide (x6 < (x1.length : Int)))) else (strakeref15_Read.j1 k x0 x1 x5 x6 false)
def strakeref15_Read.j1 : Nat → List (List Int) → List (List Int) → List (S42) → Int → Bool → Option ((List (S42)))
 | 0, _, _, _, _, _ => none
 | k + 1,x0,x1,x5,x6,x18 => if x18 = true then (if 0 ≤ x6 then (if x6 < (x1.length : Int) then (if x6 < (x0.length : Int) then ((strakeref05_Unpack.f k (rd_L2 x1 x6) (rd_L2 x0 x6)).bind fun bt325 => (if bt325.2.2.2 = 0 then (if bt325.1 = 3 then (strakeref15_Read.l0 k x0 x1 x5 (wrap64 (x6 + 1))) else ((some (([] : List Int) : List Int)).bind fun y330 => (if y330.length + (rd_L2 x0 x6).length < 140737488355328 then (if x5.length < 2513169434916 then (strakeref15_Read.l0 k x0 x1 (x5 ++ [(⟨x6,(⟨bt325.1,bt325.2.1,bt325.2.2.1⟩ : S40),(y330 ++ (rd_L2 x0 x6))⟩ : S42)]) (wrap64 (x6 + 1))) else (none)) else (none)))) else (strakeref15_Read.l0 k x0 x1 x5 (wrap64 (x6 + 1))))) else (none)) else (none)) else (none)) else (some x5)
end
def strakeref15_Read.f (k : Nat) (l0 : List (List Int)) (l1 : List (List Int)) : Option ((List (S42))) := strakeref15_Read.l0 k l0 l1 ([] : List (S42)) 0
theorem strakeref15_Read.mono_l : ∀ k,(∀ y0 y1 y2 y3,LeO (strakeref15_Read.l0 k y0 y1 y2 y3) (strakeref15_Read.l0 (k + 1) y0 y1 y2 y3)) ∧ (∀ y0 y1 y2 y3 y4,LeO (strakeref15_Read.j1 k y0 y1 y2 y3 y4) (strakeref15_Read.j1 (k + 1) y0 y1 y2 y3 y4))
 | 0 => ⟨fun _ _ _ _ r h => by simp [strakeref15_Read.l0] at h, fun _ _ _ _ _ r h => by simp [strakeref15_Read.j1] at h⟩
 | k + 1 => by
  obtain ⟨ih0, ih1⟩ := strakeref15_Read.mono_l k
  refine ⟨?_, ?_⟩
  ·intro y0 y1 y2 y3
   unfold strakeref15_Read.l0
   repeat' first
   | (with_reducible exact ih0 _ _ _ _)
   | (with_reducible exact ih1 _ _ _ _ _)
   | (with_reducible exact strakeref05_Unpack.mono _ _ _)
   | (with_reducible exact LeO.refl _)
   | (with_reducible exact LeO.none _)
   | (with_reducible refine LeO.ite ?_ ?_)
   | (with_reducible refine LeO.bind ?_ (fun _ => ?_))
   | exact ih0 _ _ _ _
   | exact ih1 _ _ _ _ _
   | exact strakeref05_Unpack.mono _ _ _
   | exact LeO.none _
   | refine LeO.ite ?_ ?_
   | refine LeO.bind ?_ (fun _ => ?_)
  ·intro y0 y1 y2 y3 y4
   unfold strakeref15_Read.j1
   repeat' first
   | (with_reducible exact ih0 _ _ _ _)
   | (with_reducible exact ih1 _ _ _ _ _)
   | (with_reducible exact strakeref05_Unpack.mono _ _ _)
   | (with_reducible exact LeO.refl _)
   | (with_reducible exact LeO.none _)
   | (with_reducible refine LeO.ite ?_ ?_)
   | (with_reducible refine LeO.bind ?_ (fun _ => ?_))
   | exact ih0 _ _ _ _
   | exact ih1 _ _ _ _ _
   | exact strakeref05_Unpack.mono _ _ _
   | exact LeO.none _
   | refine LeO.ite ?_ ?_
   | refine LeO.bind ?_ (fun _ => ?_)
theorem strakeref15_Read.mono : ∀ a0 a1 k, LeO (strakeref15_Read.f k a0 a1) (strakeref15_Read.f (k + 1) a0 a1) := by
 intro a0 a1 k
 obtain ⟨ih0, ih1⟩ := strakeref15_Read.mono_l k
 unfold strakeref15_Read.f
 repeat' first
   | (with_reducible exact ih0 _ _ _ _)
   | (with_reducible exact ih1 _ _ _ _ _)
   | (with_reducible exact strakeref05_Unpack.mono _ _ _)
   | (with_reducible exact LeO.refl _)
   | (with_reducible exact LeO.none _)
   | (with_reducible refine LeO.ite ?_ ?_)
   | (with_reducible refine LeO.bind ?_ (fun _ => ?_))
   | exact ih0 _ _ _ _
   | exact ih1 _ _ _ _ _
   | exact strakeref05_Unpack.mono _ _ _
   | exact LeO.none _
   | refine LeO.ite ?_ ?_
   | refine LeO.bind ?_ (fun _ => ?_)
def strakeref15_Read.T5 : Bool × List (List Nat × List Nat) := (true,[([],[]),([],[]),([0,1],[0,1]),([2],[2]),([],[]),([],[]),([4,5],[4,5]),([6],[6]),([3,7],[3,7]),([8],[8]),([9],[9]),([9],[9]),([],[]),([12,10,8,0,1,2,3,4,5,6,7,8,9,10,12],[10,12]),([11,13,0,1,2,3,4,5,6,7,8,9,10,11,12,13],[11])])
def strakeref15_Read.B5 : List Nat := [0, 0, 3, 7, 0, 0, 48, 112, 255, 511, 1023, 1023, 0, 6143, 16383]
theorem strakeref15_Read.tab5 : rtab .any (opsOf Try.f17 5) = strakeref15_Read.T5 := by kernel_rfl
theorem strakeref15_Read.bits5 : waitsOk strakeref15_Read.T5.2 strakeref15_Read.B5 = true := by kernel_rfl
def strakeref15_Read.T7 : Bool × List (List Nat × List Nat) := (true,[([],[]),([],[]),([],[]),([],[]),([],[]),([],[]),([4,5],[4,5]),([6],[6]),([3,7],[3,7]),([1,2,8],[1,2,8]),([9],[9]),([0,10,8],[0,10]),([11,11,0,1,2,3,4,5,6,7,8,9,10,11],[0,11])])
def strakeref15_Read.B7 : List Nat := [0, 0, 0, 0, 0, 0, 48, 112, 248, 510, 1022, 2047, 4095]
theorem strakeref15_Read.tab7 : rtab .any (opsOf Try.f17 7) = strakeref15_Read.T7 := by kernel_rfl
theorem strakeref15_Read.bits7 : waitsOk strakeref15_Read.T7.2 strakeref15_Read.B7 = true := by kernel_rfl
set_option maxHeartbeats 8000000 in
set_option maxRecDepth 100000 in
theorem strakeref15_Read.calls (k : Nat) (A0 : Option Addr) (c0 : Nat) (l0 : List (List Int)) (A1 : Option Addr) (c1 : Nat) (l1 : List (List Int)) (r : List (S42)) (w : World) (hr0 : Kd.C (Kd.slice 5 (Kd.int .u8)) w A0 l0.length l0) (hc0 : l0.length ≤ c0) (hr1 : Kd.C (Kd.slice 5 (Kd.int .u8)) w A1 l1.length l1) (hc1 : l1.length ≤ c1) (h : strakeref15_Read.f k l0 l1 = some r) :
  Calls Try.prog 17 #[.slice A0 l0.length c0,.slice A1 l1.length c1] w fun e w' => ∃ v0_ : Value,e = .returned (v0_) ∧ Kd.S k42 42 w' w.heap.size (fun _ => True) v0_ r ∧ Below w.heap.size w w' := by
 have hu40 := Try.underlying40
 have hu42 := Try.underlying42
 have HR0 := Aside0.mk hr0
 have HC0 := Aside0.mk hc0
 clear hr0 hc0
 have HR1 := Aside0.mk hr1
 have HC1 := Aside0.mk hc1
 clear hr1 hc1
 have HB := Aside0.mk (Below.refl w.heap.size w)
 have H : (strakeref15_Read.l0 k l0 l1 ([] : List (S42)) 0) = some r := h
 clear h
 have H' := Aside0.mk H
 clear H
 go_enter Try.func17, Try.ntmps17
 go_wp2
 go_loopg [5,6] k (fun kq v5 v6 w' => ∃ (x5_1 : List (S42)) (x6_1 : Int),v6 = .int .i64 x6_1 ∧ Aside0 (strakeref15_Read.l0 kq l0 l1 x5_1 x6_1 = some r) ∧ Aside0 (kq ≤ k) ∧ Aside0 (Kd.S k42 42 w' w.heap.size (fun _ => True) v5 x5_1) ∧ Aside0 (Below w.heap.size w w'))
 case atStart => exact ⟨(([] : List (S42))),(0),(by first|rfl|(simp;done)|(simp [*];done)),H',⟨Nat.le_refl _⟩,⟨by first|exact Kd.S_nil _ _ _ _ _|exact Kd.N_nil _ _ _ _ _|exact Kd.V_nil _ _ _ _ _|exact Kd.Q_nil _ _ _ _ _|exact Kd.R_nil _ _ _ _ _⟩,⟨by repeat (first|(with_reducible first|exact HB.out|apply below_alloc|apply pw_below_drewN|apply below_drew1)|exact HB.out)⟩⟩
 case round =>
  clear H'
  try clear c1
  try clear p2
  obtain ⟨x5_1, x6_1, rfl, HA, HK1, HO_5, HB⟩ := hrel
  cases gk with
  | zero => exact absurd HA.out (by simp [strakeref15_Read.l0])
  | succ k1 =>
   have H := HA.out
   clear HA
   simp only [strakeref15_Read.l0] at H
   have HC3 := Aside0.mk H
   clear H
   go_upto_region 3 with (fail)
   go_cut [18] (fun v18 wc => ∃ (kq : Nat) (x18_2 : Bool),v18 = .bool x18_2 ∧ Aside0 (strakeref15_Read.j1 kq l0 l1 x5_1 x6_1 x18_2 = some r) ∧ Aside0 (kq ≤ k1) ∧ Aside0 (Kd.S k42 42 wc w.heap.size (fun _ => True) u5 x5_1) ∧ Aside0 (Below w.heap.size w wc))
   case first =>
    have H := HC3.out
    clear HC3
    by_cases c4 : x6_1 < (l0.length : Int)
    ·rw [if_pos c4] at H
     have c4b0 : decide (x6_1 < (l0.length : Int)) = true := decide_eq_true c4
     clear c4
     (first | rw [c4b0] | (simp only [i64_w, i32_w]; rw [c4b0]) | skip)
     have H' := Aside0.mk H
     clear H
     go_wp2
     go_meet
     case rel => exact ⟨_,(decide (x6_1 < (l1.length : Int))),(by first|rfl|(simp;done)|(simp [*];done)),H',⟨by have := HK1.out;first|omega|exact Nat.le_refl _⟩,⟨by (with_reducible repeat (first|apply Kd.S_alloc|apply Kd.S_drewN|apply Kd.S_drew));exact HO_5.out⟩,⟨by repeat (first|(with_reducible first|exact HB.out|apply below_alloc|apply pw_below_drewN|apply below_drew1)|exact HB.out)⟩⟩
    ·rw [if_neg c4] at H
     have c4b0 : decide (x6_1 < (l0.length : Int)) = false := decide_eq_false c4
     clear c4
     (first | rw [c4b0] | (simp only [i64_w, i32_w]; rw [c4b0]) | skip)
     have H' := Aside0.mk H
     clear H
     go_wp2
     go_meet
     case rel => exact ⟨_,(false),(by first|rfl|(simp;done)|(simp [*];done)),H',⟨by have := HK1.out;first|omega|exact Nat.le_refl _⟩,⟨by (with_reducible repeat (first|apply Kd.S_alloc|apply Kd.S_drewN|apply Kd.S_drew));exact HO_5.out⟩,⟨by repeat (first|(with_reducible first|exact HB.out|apply below_alloc|apply pw_below_drewN|apply below_drew1)|exact HB.out)⟩⟩
   case rest =>
    clear HC3
    try clear c1
    try clear p2
    try clear c4
    try clear c4b0
    try clear p2
    obtain ⟨kq, x18_2, rfl, HA, HJ2, HO_5, HB⟩ := hcut
    cases kq with
    | zero => exact absurd HA.out (by simp [strakeref15_Read.j1])
    | succ kj2 =>
     have H := HA.out
     clear HA
     simp only [strakeref15_Read.j1] at H
     by_cases c5 : x18_2 = true
     ·subst c5
      have H1 : (if 0 ≤ x6_1 then (if x6_1 < (l1.length : Int) then (if x6_1 < (l0.length : Int) then ((strakeref05_Unpack.f kj2 (rd_L2 l1 x6_1) (rd_L2 l0 x6_1)).bind fun bt325 => (if bt325.2.2.2 = 0 then (if bt325.1 = 3 then (strakeref15_Read.l0 kj2 l0 l1 x5_1 (wrap64 (x6_1 + 1))) else ((some (([] : List Int) : List Int)).bind fun y330 => (if y330.length + (rd_L2 l0 x6_1).length < 140737488355328 then (if x5_1.length < 2513169434916 then (strakeref15_Read.l0 kj2 l0 l1 (x5_1 ++ [(⟨x6_1,(⟨bt325.1,bt325.2.1,bt325.2.2.1⟩ : S40),(y330 ++ (rd_L2 l0 x6_1))⟩ : S42)]) (wrap64 (x6_1 + 1))) else (none)) else (none)))) else (strakeref15_Read.l0 kj2 l0 l1 x5_1 (wrap64 (x6_1 + 1))))) else (none)) else (none)) else (none)) = some r := by rw [if_pos rfl] at H;exact H
      clear H
      have H := H1
      clear H1
      by_cases c6 : 0 ≤ x6_1
      ·rw [if_pos c6] at H
       have c6b0 : decide (0 ≤ x6_1) = true := decide_eq_true c6
       clear c6
       by_cases c7 : x6_1 < (l1.length : Int)
       ·rw [if_pos c7] at H
        have c7b0 : decide (x6_1 < (l1.length : Int)) = true := decide_eq_true c7
        clear c7
        by_cases c8 : x6_1 < (l0.length : Int)
        ·rw [if_pos c8] at H
         have c8b0 : decide (x6_1 < (l0.length : Int)) = true := decide_eq_true c8
         clear c8
         replace H := Option.bind_eq_some_iff.mp H
         obtain ⟨⟨t325, t326, t327, t328⟩, A90, H⟩ := H
         replace H : (if t328 = 0 then (if t325 = 3 then (strakeref15_Read.l0 kj2 l0 l1 x5_1 (wrap64 (x6_1 + 1))) else ((some (([] : List Int) : List Int)).bind fun y330 => (if y330.length + (rd_L2 l0 x6_1).length < 140737488355328 then (if x5_1.length < 2513169434916 then (strakeref15_Read.l0 kj2 l0 l1 (x5_1 ++ [(⟨x6_1,(⟨t325,t326,t327⟩ : S40),(y330 ++ (rd_L2 l0 x6_1))⟩ : S42)]) (wrap64 (x6_1 + 1))) else (none)) else (none)))) else (strakeref15_Read.l0 kj2 l0 l1 x5_1 (wrap64 (x6_1 + 1)))) = some r := H
         have A9 := Aside0.mk A90
         clear A90
         by_cases c10 : t328 = 0
         ·rw [if_pos c10] at H
          have c10b0 : (t328 == 0) = true := beq_iff_eq.mpr c10
          have c10b1 : (t328 != 0) = false := bne_eq_false_iff_eq.mpr c10
          clear c10
          by_cases c11 : t325 = 3
          ·rw [if_pos c11] at H
           have c11b0 : (t325 == 3) = true := beq_iff_eq.mpr c11
           have c11b1 : (t325 != 3) = false := bne_eq_false_iff_eq.mpr c11
           clear c11
           have H' := Aside0.mk H
           clear H
           try go_wp2
           (try (rw [drewN_self wc];generalize hq_ : World.drewN wc _ = wc;have n0_ : Aside0 (Kd.S k42 42 wc w.heap.size (fun _ => True) u5 x5_1) := ⟨by rw [← hq_];exact (by (with_reducible repeat (first|apply Kd.S_alloc|apply Kd.S_drewN|apply Kd.S_drew));exact HO_5.out)⟩;have n1_ : Aside0 (Below w.heap.size w wc) := ⟨by rw [← hq_];exact (by repeat (first|(with_reducible first|exact HB.out|apply below_alloc|apply pw_below_drewN|apply below_drew1)|exact HB.out))⟩;clear HO_5 HB hq_;have HO_5 := n0_;have HB := n1_;clear n0_ n1_))
           have n0_ := Aside0.mk (Kd.S_drew HO_5.out)
           have n1_ := Aside0.mk (below_drew1 HB.out)
           clear HO_5
           clear HB
           have HO_5 := n0_
           have HB := n1_
           clear n0_ n1_
           have p323 : 0 ≤ (x6_1 : Int) := of_decide_eq_true (by first | (with_reducible assumption) | assumption)
           have q323 : x6_1 < (l1.length : Int) := of_decide_eq_true (by first|(with_reducible assumption)|assumption)
           obtain ⟨ad323, A323_0, c323_0, e323, hx323_0, hl323_0, hi323_0⟩ := at_L2 HR1.out x6_1 p323 q323
           have hw323_0 := hx323_0
           cases e323
           replace hx323_0 := (HB.out.cell (World.block_lt_of_cell? w _ hx323_0)).trans hx323_0
           have HR323_0 := Aside0.mk hi323_0
           have HC323_0 := Aside0.mk hl323_0
           clear hi323_0 hl323_0
           replace p323 := eq_true p323
           replace q323 := eq_true q323
           have p324 : 0 ≤ (x6_1 : Int) := of_decide_eq_true (by first | (with_reducible assumption) | assumption)
           have q324 : x6_1 < (l0.length : Int) := of_decide_eq_true (by first|(with_reducible assumption)|assumption)
           obtain ⟨ad324, A324_0, c324_0, e324, hx324_0, hl324_0, hi324_0⟩ := at_L2 HR0.out x6_1 p324 q324
           have hw324_0 := hx324_0
           cases e324
           replace hx324_0 := (HB.out.cell (World.block_lt_of_cell? w _ hx324_0)).trans hx324_0
           have HR324_0 := Aside0.mk hi324_0
           have HC324_0 := Aside0.mk hl324_0
           clear hi324_0 hl324_0
           replace p324 := eq_true p324
           replace q324 := eq_true q324
           refine start_ (n := 15) (S := fun w' => w'.cell? (ad323.add (x6_1).toNat) = some (.slice A323_0 (rd_L2 l1 x6_1).length c323_0) ∧ w'.cell? (ad324.add (x6_1).toNat) = some (.slice A324_0 (rd_L2 l0 x6_1).length c324_0)) (ds := []) #[false,false,false,false,false,false,false,false,false,false,false,false,false,false,false] (by kernel_rfl) rfl rfl ⟨((HB.out.cell (World.block_lt_of_cell? w _ hw323_0)).trans hw323_0),((HB.out.cell (World.block_lt_of_cell? w _ hw324_0)).trans hw324_0)⟩ (fun hHeld => ?_);refine with_tabW strakeref15_Read.tab5 strakeref15_Read.bits5 (fun HT_ HW_ => ?_)
           generalize wc.drew = w12 at HO_5 HB HR323_0 HR324_0 hx323_0 hx324_0 hHeld ⊢
           refine pure_ (i := 0) (N := some 22) (v := ?_) (a' := ?_) #[true,false,false,false,false,false,false,false,false,false,false,false,false,false,false] rfl rfl (any_of HT_.out (by kernel_rfl)) (fun _ _ _ h => h) (Or.inl ⟨by rfl,?_⟩) ?_ ?_
           rotate_left
           ·intro w'
            go_simp
            with_reducible rfl
           rotate_left
           ·simp only [Act.put, List.setIfInBounds_toArray, List.set_cons_zero, List.set_cons_succ, i64_w, i32_w]
            rfl
           refine pure_ (i := 1) (N := some 23) (v := ?_) (a' := ?_) #[true,true,false,false,false,false,false,false,false,false,false,false,false,false,false] rfl rfl (any_of HT_.out (by kernel_rfl)) (fun _ _ _ h => h) (Or.inl ⟨by rfl,?_⟩) ?_ ?_
           rotate_left
           ·intro w'
            go_simp
            with_reducible rfl
           rotate_left
           ·simp only [Act.put, List.setIfInBounds_toArray, List.set_cons_zero, List.set_cons_succ, i64_w, i32_w]
            rfl
           refine pure_ (i := 2) (N := some 24) (v := ?_) (a' := ?_) #[true,true,true,false,false,false,false,false,false,false,false,false,false,false,false] rfl rfl (any_of HT_.out (by kernel_rfl)) (fun _ _ _ h => h) (Or.inl ⟨by rfl,?_⟩) ?_ ?_
           rotate_left
           ·intro w'
            go_simp
            with_reducible rfl
           rotate_left
           ·simp only [Act.put, List.setIfInBounds_toArray, List.set_cons_zero, List.set_cons_succ, i64_w, i32_w]
            rfl
           refine pure_ (i := 4) (N := some 26) (v := ?_) (a' := ?_) #[true,true,true,false,true,false,false,false,false,false,false,false,false,false,false] rfl rfl (any_of HT_.out (by kernel_rfl)) (fun _ _ _ h => h) (Or.inl ⟨by rfl,?_⟩) ?_ ?_
           rotate_left
           ·intro w'
            go_simp
            with_reducible rfl
           rotate_left
           ·simp only [Act.put, List.setIfInBounds_toArray, List.set_cons_zero, List.set_cons_succ, i64_w, i32_w]
            rfl
           refine pure_ (i := 5) (N := some 27) (v := ?_) (a' := ?_) #[true,true,true,false,true,true,false,false,false,false,false,false,false,false,false] rfl rfl (any_of HT_.out (by kernel_rfl)) (fun _ _ _ h => h) (Or.inl ⟨by rfl,?_⟩) ?_ ?_
           rotate_left
           ·intro w'
            go_simp
            with_reducible rfl
           rotate_left
           ·simp only [Act.put, List.setIfInBounds_toArray, List.set_cons_zero, List.set_cons_succ, i64_w, i32_w]
            rfl
           refine pure_ (i := 6) (N := some 28) (v := ?_) (a' := ?_) #[true,true,true,false,true,true,true,false,false,false,false,false,false,false,false] rfl rfl (any_of HT_.out (by kernel_rfl)) (fun _ _ _ h => h) (Or.inl ⟨by rfl,?_⟩) ?_ ?_
           rotate_left
           ·intro w'
            go_simp
            with_reducible rfl
           rotate_left
           ·simp only [Act.put, List.setIfInBounds_toArray, List.set_cons_zero, List.set_cons_succ, i64_w, i32_w]
            rfl
           refine take_ (i := 3) (N := some 25) (v := ?_) (a' := ?_) #[true,true,true,true,true,true,true,false,false,false,false,false,false,false,false] rfl rfl (take_ofW HT_.out HW_.out (by kernel_rfl)) (fun _ _ _ h => h) (Or.inl ⟨by rfl,?_⟩) hHeld ?_ ?_
           rotate_left
           ·rintro w' ⟨s0, s1⟩
            go_simp
            with_reducible rfl
           rotate_left
           ·simp only [Act.put, List.setIfInBounds_toArray, List.set_cons_zero, List.set_cons_succ, i64_w, i32_w]
            rfl
           refine take_ (i := 7) (N := some 29) (v := ?_) (a' := ?_) #[true,true,true,true,true,true,true,true,false,false,false,false,false,false,false] rfl rfl (take_ofW HT_.out HW_.out (by kernel_rfl)) (fun _ _ _ h => h) (Or.inl ⟨by rfl,?_⟩) hHeld ?_ ?_
           rotate_left
           ·rintro w' ⟨s0, s1⟩
            go_simp
            with_reducible rfl
           rotate_left
           ·simp only [Act.put, List.setIfInBounds_toArray, List.set_cons_zero, List.set_cons_succ, i64_w, i32_w]
            rfl
           refine join_ (σ := Nat) 2 #[true,true,true,true,true,true,true,true,true,true,true,true,true,false,false] (fun s_ => [(30,.tuple #[.agg #[.int .i64 t325,.int .i64 t326,.int .i64 t327],.int .i64 t328]),(7,.pointer (some ⟨s_,0,none⟩)),(21,.tuple #[.agg #[.int .i64 t325,.int .i64 t326,.int .i64 t327],.int .i64 t328]),(31,.agg #[.int .i64 t325,.int .i64 t326,.int .i64 t327]),(32,.int .i64 t328)]) (fun s_ w' => (w'.cell? (ad323.add (x6_1).toNat) = some (.slice A323_0 (rd_L2 l1 x6_1).length c323_0) ∧ w'.cell? (ad324.add (x6_1).toNat) = some (.slice A324_0 (rd_L2 l0 x6_1).length c324_0)) ∧ (Kd.S k42 42 w' w.heap.size (fun _ => True) u5 x5_1) ∧ (w'.heap[s_]? = some (.cells #[.int .i64 0,.int .i64 0,.int .i64 0] 40 (0,0))) ∧ (w.heap.size ≤ s_) ∧ (w.heap.size ≤ s_) ∧ (Below w.heap.size w w')) ?_ ?_
           rotate_left
           ·intro hCont
            refine two_ (i := 8) (j := 12) (Ni := some 30) (Nj := some 7) #[true,true,true,true,true,true,true,true,true,false,false,false,false,false,false] #[true,true,true,true,true,true,true,true,false,false,false,false,true,false,false] rfl rfl rfl rfl (two_of HT_.out (by kernel_rfl)) (by decide) (by decide) (fun K hK => ?_) (fun K hK => ?_)
            ·skip
             refine goes_ Try.func28 (by kernel_rfl) rfl #[.slice A323_0 (rd_L2 l1 x6_1).length c323_0,.slice A324_0 (rd_L2 l0 x6_1).length c324_0] (by rfl) rfl rfl (by (try simp only [List.map_toArray,List.map_cons,List.map_nil]);first|done|rfl|(simp only [List.length_drop,List.length_take];rfl)) ?_
             with_reducible refine (strakeref05_Unpack.calls kj2 _ _ (rd_L2 l1 x6_1) _ _ (rd_L2 l0 x6_1) t325 t326 t327 t328 _ ?side1 ?side2 ?side3 ?side4 A9.out).mono ?_
             (case side1 => repeat (first|exact (Kd.C_below HR323_0.out HB.out)|(with_reducible refine Kd.C_alloc ?_ _)|(with_reducible refine Kd.C_drewN ?_ _)|(with_reducible refine Kd.C_drew ?_)))
             (case side2 => exact HC323_0.out)
             (case side3 => repeat (first|exact (Kd.C_below HR324_0.out HB.out)|(with_reducible refine Kd.C_alloc ?_ _)|(with_reducible refine Kd.C_drewN ?_ _)|(with_reducible refine Kd.C_drew ?_)))
             (case side4 => exact HC324_0.out)
             rintro e w13 ⟨rfl, hb⟩
             refine ⟨_, rfl, ?_⟩
             have n0_ := Aside0.mk (Kd.S_below (by (with_reducible repeat (first|apply Kd.S_alloc|apply Kd.S_drewN|apply Kd.S_drew));exact HO_5.out) hb)
             have n1_ := Aside0.mk (below_step (by repeat (first|(with_reducible first|exact HB.out|apply below_alloc|apply pw_below_drewN|apply below_drew1)|exact HB.out)) hb)
             clear HO_5
             clear HB
             have HO_5 := n0_
             have HB := n1_
             clear n0_ n1_
             (try clear hb)
             (try clear hb2)
             (try clear hk)
             (try clear hi)
             refine hK.out _ _ ⟨((HB.out.cell (World.block_lt_of_cell? w _ hw323_0)).trans hw323_0),((HB.out.cell (World.block_lt_of_cell? w _ hw324_0)).trans hw324_0)⟩ (fun hHeld => ?_)
             clear hK K
             refine norm_ (a' := ?_) ?_ ?_
             rotate_left
             ·show Act.put _ (some 30) _ = _
              simp only [Act.put, List.setIfInBounds_toArray, List.set_cons_zero, List.set_cons_succ, i64_w, i32_w]
              rfl
             refine pure_ (i := 9) (N := some 21) (v := ?_) (a' := ?_) #[true,true,true,true,true,true,true,true,true,true,false,false,false,false,false] rfl rfl (any_of HT_.out (by kernel_rfl)) (fun _ _ _ h => h) (Or.inl ⟨by rfl,?_⟩) ?_ ?_
             rotate_left
             ·intro w'
              go_simp
              with_reducible rfl
             rotate_left
             ·simp only [Act.put, List.setIfInBounds_toArray, List.set_cons_zero, List.set_cons_succ, i64_w, i32_w]
              rfl
             refine pure_ (i := 10) (N := some 31) (v := ?_) (a' := ?_) #[true,true,true,true,true,true,true,true,true,true,true,false,false,false,false] rfl rfl (any_of HT_.out (by kernel_rfl)) (fun _ _ _ h => h) (Or.inl ⟨by rfl,?_⟩) ?_ ?_
             rotate_left
             ·intro w'
              go_simp
              with_reducible rfl
             rotate_left
             ·simp only [Act.put, List.setIfInBounds_toArray, List.set_cons_zero, List.set_cons_succ, i64_w, i32_w]
              rfl
             refine pure_ (i := 11) (N := some 32) (v := ?_) (a' := ?_) #[true,true,true,true,true,true,true,true,true,true,true,true,false,false,false] rfl rfl (any_of HT_.out (by kernel_rfl)) (fun _ _ _ h => h) (Or.inl ⟨by rfl,?_⟩) ?_ ?_
             rotate_left
             ·intro w'
              go_simp
              with_reducible rfl
             rotate_left
             ·simp only [Act.put, List.setIfInBounds_toArray, List.set_cons_zero, List.set_cons_succ, i64_w, i32_w]
              rfl
             refine one_ (i := 12) (N := some 7) #[true,true,true,true,true,true,true,true,true,true,true,true,true,false,false] rfl rfl (one_of HT_.out (by kernel_rfl)) (by decide) (fun K hK => ?_)
             refine box_step ?hg (N := 7) ?hd (cs := #[.int .i64 0,.int .i64 0,.int .i64 0]) (t := 40) ?hr ?_;(case hd => rfl);(case hg => rfl);(case hr => first|(go_simp;done)|(go_simp;rfl))
             intro gb329 hg w14 hbox hb
             have n0_ := Aside0.mk (Kd.S_below (by (with_reducible repeat (first|apply Kd.S_alloc|apply Kd.S_drewN|apply Kd.S_drew));exact HO_5.out) hb)
             have n1_ := Aside0.mk (below_step (by repeat (first|(with_reducible first|exact HB.out|apply below_alloc|apply pw_below_drewN|apply below_drew1)|exact HB.out)) hb)
             have n2_ := Aside0.mk (hbox)
             have n3_ := Aside0.mk ((by rw [hg];exact (below_size (by repeat (first|(with_reducible first|exact HB.out|apply below_alloc|apply pw_below_drewN|apply below_drew1)|exact HB.out))) : w.heap.size ≤ gb329))
             have n4_ := Aside0.mk ((by rw [hg];exact (below_size (by repeat (first|(with_reducible first|exact HB.out|apply below_alloc|apply pw_below_drewN|apply below_drew1)|exact HB.out))) : w.heap.size ≤ gb329))
             clear HO_5
             clear HB
             have HO_5 := n0_
             have HB := n1_
             have BK329 := n2_
             have GW329 := n3_
             have GE329 := n4_
             clear n0_ n1_ n2_ n3_ n4_
             clear hb hbox hg
             refine hK.out _ _ ⟨((HB.out.cell (World.block_lt_of_cell? w _ hw323_0)).trans hw323_0),((HB.out.cell (World.block_lt_of_cell? w _ hw324_0)).trans hw324_0)⟩ (fun hHeld => ?_)
             clear hK K
             refine norm_ (a' := ?_) ?_ ?_
             rotate_left
             ·show Act.put _ (some 7) _ = _
              simp only [Act.put, List.setIfInBounds_toArray, List.set_cons_zero, List.set_cons_succ, i64_w, i32_w]
              rfl
             exact norm_ (by simp only [putAll,Act.put,List.setIfInBounds_toArray,List.set_cons_zero,List.set_cons_succ]) (hCont (gb329) _ ⟨hHeld,(by (with_reducible repeat (first|apply Kd.S_alloc|apply Kd.S_drewN|apply Kd.S_drew));exact HO_5.out),(by (with_reducible repeat (first|refine blk_drewN ?_ _|refine blk_drew ?_|refine blk_alloc ?_ _));exact BK329.out),GW329.out,GE329.out,(by repeat (first|(with_reducible first|exact HB.out|apply below_alloc|apply pw_below_drewN|apply below_drew1|refine below_set ?_ GE329.out)|exact HB.out))⟩)
            ·skip
             refine box_step ?hg (N := 7) ?hd (cs := #[.int .i64 0,.int .i64 0,.int .i64 0]) (t := 40) ?hr ?_;(case hd => rfl);(case hg => rfl);(case hr => first|(go_simp;done)|(go_simp;rfl))
             intro gb329 hg w13 hbox hb
             have n0_ := Aside0.mk (Kd.S_below (by (with_reducible repeat (first|apply Kd.S_alloc|apply Kd.S_drewN|apply Kd.S_drew));exact HO_5.out) hb)
             have n1_ := Aside0.mk (below_step (by repeat (first|(with_reducible first|exact HB.out|apply below_alloc|apply pw_below_drewN|apply below_drew1)|exact HB.out)) hb)
             have n2_ := Aside0.mk (hbox)
             have n3_ := Aside0.mk ((by rw [hg];exact (below_size (by repeat (first|(with_reducible first|exact HB.out|apply below_alloc|apply pw_below_drewN|apply below_drew1)|exact HB.out))) : w.heap.size ≤ gb329))
             have n4_ := Aside0.mk ((by rw [hg];exact (below_size (by repeat (first|(with_reducible first|exact HB.out|apply below_alloc|apply pw_below_drewN|apply below_drew1)|exact HB.out))) : w.heap.size ≤ gb329))
             clear HO_5
             clear HB
             have HO_5 := n0_
             have HB := n1_
             have BK329 := n2_
             have GW329 := n3_
             have GE329 := n4_
             clear n0_ n1_ n2_ n3_ n4_
             clear hb hbox hg
             refine hK.out _ _ ⟨((HB.out.cell (World.block_lt_of_cell? w _ hw323_0)).trans hw323_0),((HB.out.cell (World.block_lt_of_cell? w _ hw324_0)).trans hw324_0)⟩ (fun hHeld => ?_)
             clear hK K
             refine norm_ (a' := ?_) ?_ ?_
             rotate_left
             ·show Act.put _ (some 7) _ = _
              simp only [Act.put, List.setIfInBounds_toArray, List.set_cons_zero, List.set_cons_succ, i64_w, i32_w]
              rfl
             refine one_ (i := 8) (N := some 30) #[true,true,true,true,true,true,true,true,true,false,false,false,true,false,false] rfl rfl (one_of HT_.out (by kernel_rfl)) (by decide) (fun K hK => ?_)
             refine goes_ Try.func28 (by kernel_rfl) rfl #[.slice A323_0 (rd_L2 l1 x6_1).length c323_0,.slice A324_0 (rd_L2 l0 x6_1).length c324_0] (by rfl) rfl rfl (by (try simp only [List.map_toArray,List.map_cons,List.map_nil]);first|done|rfl|(simp only [List.length_drop,List.length_take];rfl)) ?_
             with_reducible refine (strakeref05_Unpack.calls kj2 _ _ (rd_L2 l1 x6_1) _ _ (rd_L2 l0 x6_1) t325 t326 t327 t328 _ ?side1 ?side2 ?side3 ?side4 A9.out).mono ?_
             (case side1 => repeat (first|exact (Kd.C_below HR323_0.out HB.out)|(with_reducible refine Kd.C_alloc ?_ _)|(with_reducible refine Kd.C_drewN ?_ _)|(with_reducible refine Kd.C_drew ?_)))
             (case side2 => exact HC323_0.out)
             (case side3 => repeat (first|exact (Kd.C_below HR324_0.out HB.out)|(with_reducible refine Kd.C_alloc ?_ _)|(with_reducible refine Kd.C_drewN ?_ _)|(with_reducible refine Kd.C_drew ?_)))
             (case side4 => exact HC324_0.out)
             rintro e w14 ⟨rfl, hb⟩
             refine ⟨_, rfl, ?_⟩
             have n0_ := Aside0.mk (Kd.S_below (by (with_reducible repeat (first|apply Kd.S_alloc|apply Kd.S_drewN|apply Kd.S_drew));exact HO_5.out) hb)
             have n1_ := Aside0.mk (blk_below (g := gb329) (o := .cells #[.int .i64 0,.int .i64 0,.int .i64 0] 40 (0,0)) (by (with_reducible repeat (first|refine blk_drewN ?_ _|refine blk_drew ?_|refine blk_alloc ?_ _));exact BK329.out) hb)
             have n2_ := Aside0.mk (below_step (by repeat (first|(with_reducible first|exact HB.out|apply below_alloc|apply pw_below_drewN|apply below_drew1|refine below_set ?_ GE329.out)|exact HB.out)) hb)
             clear HO_5
             clear BK329
             clear HB
             have HO_5 := n0_
             have BK329 := n1_
             have HB := n2_
             clear n0_ n1_ n2_
             (try clear hb)
             (try clear hb2)
             (try clear hk)
             (try clear hi)
             refine hK.out _ _ ⟨((HB.out.cell (World.block_lt_of_cell? w _ hw323_0)).trans hw323_0),((HB.out.cell (World.block_lt_of_cell? w _ hw324_0)).trans hw324_0)⟩ (fun hHeld => ?_)
             clear hK K
             refine norm_ (a' := ?_) ?_ ?_
             rotate_left
             ·show Act.put _ (some 30) _ = _
              simp only [Act.put, List.setIfInBounds_toArray, List.set_cons_zero, List.set_cons_succ, i64_w, i32_w]
              rfl
             refine pure_ (i := 9) (N := some 21) (v := ?_) (a' := ?_) #[true,true,true,true,true,true,true,true,true,true,false,false,true,false,false] rfl rfl (any_of HT_.out (by kernel_rfl)) (fun _ _ _ h => h) (Or.inl ⟨by rfl,?_⟩) ?_ ?_
             rotate_left
             ·intro w'
              go_simp
              with_reducible rfl
             rotate_left
             ·simp only [Act.put, List.setIfInBounds_toArray, List.set_cons_zero, List.set_cons_succ, i64_w, i32_w]
              rfl
             refine pure_ (i := 10) (N := some 31) (v := ?_) (a' := ?_) #[true,true,true,true,true,true,true,true,true,true,true,false,true,false,false] rfl rfl (any_of HT_.out (by kernel_rfl)) (fun _ _ _ h => h) (Or.inl ⟨by rfl,?_⟩) ?_ ?_
             rotate_left
             ·intro w'
              go_simp
              with_reducible rfl
             rotate_left
             ·simp only [Act.put, List.setIfInBounds_toArray, List.set_cons_zero, List.set_cons_succ, i64_w, i32_w]
              rfl
             refine pure_ (i := 11) (N := some 32) (v := ?_) (a' := ?_) #[true,true,true,true,true,true,true,true,true,true,true,true,true,false,false] rfl rfl (any_of HT_.out (by kernel_rfl)) (fun _ _ _ h => h) (Or.inl ⟨by rfl,?_⟩) ?_ ?_
             rotate_left
             ·intro w'
              go_simp
              with_reducible rfl
             rotate_left
             ·simp only [Act.put, List.setIfInBounds_toArray, List.set_cons_zero, List.set_cons_succ, i64_w, i32_w]
              rfl
             exact norm_ (by simp only [putAll,Act.put,List.setIfInBounds_toArray,List.set_cons_zero,List.set_cons_succ]) (hCont (gb329) _ ⟨hHeld,(by (with_reducible repeat (first|apply Kd.S_alloc|apply Kd.S_drewN|apply Kd.S_drew));exact HO_5.out),(by (with_reducible repeat (first|refine blk_drewN ?_ _|refine blk_drew ?_|refine blk_alloc ?_ _));exact BK329.out),GW329.out,GE329.out,(by repeat (first|(with_reducible first|exact HB.out|apply below_alloc|apply pw_below_drewN|apply below_drew1|refine below_set ?_ GE329.out)|exact HB.out))⟩)
           rintro gb329 w15 ⟨hS_, h0_, h1_, h2_, h3_, h4_⟩
           have n0_ : Aside0 (Kd.S k42 42 w15 w.heap.size (fun _ => True) u5 x5_1) := ⟨h0_⟩
           have n1_ : Aside0 (w15.heap[gb329]? = some (.cells #[.int .i64 0,.int .i64 0,.int .i64 0] 40 (0,0))) := ⟨h1_⟩
           have n2_ : Aside0 (w.heap.size ≤ gb329) := ⟨h2_⟩
           have n3_ : Aside0 (w.heap.size ≤ gb329) := ⟨h3_⟩
           have n4_ : Aside0 (Below w.heap.size w w15) := ⟨h4_⟩
           clear HO_5
           clear HB
           clear h0_ h1_ h2_ h3_ h4_
           have HO_5 := n0_
           have BK329 := n1_
           have GW329 := n2_
           have GE329 := n3_
           have HB := n4_
           clear n0_ n1_ n2_ n3_ n4_
           have hHeld : w15.cell? (ad323.add (x6_1).toNat) = some (.slice A323_0 (rd_L2 l1 x6_1).length c323_0) ∧ w15.cell? (ad324.add (x6_1).toNat) = some (.slice A324_0 (rd_L2 l0 x6_1).length c324_0) := hS_
           refine norm_ (a' := ?_) ?_ ?_
           rotate_left
           ·simp only [putAll, Act.put, List.setIfInBounds_toArray, List.set_cons_zero, List.set_cons_succ]
            rfl
           refine one_ (i := 13) (N := none) #[true,true,true,true,true,true,true,true,true,true,true,true,true,true,false] rfl rfl (one_of HT_.out (by kernel_rfl)) (by decide) (fun K hK => ?_)
           have hs16 : w15.cell? ⟨gb329, 0, none⟩ = some (.int .i64 0) := (blk_cell BK329.out 0).trans rfl
           have hfs16 := blk_frozen BK329.out 0
           have hs17 : w15.cell? ⟨gb329, 1, none⟩ = some (.int .i64 0) := (blk_cell BK329.out 1).trans rfl
           have hfs17 := blk_frozen BK329.out 1
           have hs18 : w15.cell? ⟨gb329, 2, none⟩ = some (.int .i64 0) := (blk_cell BK329.out 2).trans rfl
           have hfs18 := blk_frozen BK329.out 2
           refine skip_ (w1 := ?_) (by rfl) rfl ?_ ?_
           rotate_left
           ·go_simp
            rfl
           refine hK.out _ _ ⟨((cell_far (p := ⟨gb329,_,none⟩) (by first|exact Nat.ne_of_lt (Nat.lt_of_lt_of_le (by have := World.block_lt_of_cell? _ _ hw323_0;first|rwa [add_block] at this|exact this) GW329.out)|(rw [add_block];exact Nat.ne_of_lt (Nat.lt_of_lt_of_le (by have := World.block_lt_of_cell? _ _ hw323_0;first|rwa [add_block] at this|exact this) GW329.out))|(show (Addr.add _ _).block ≠ _;rw [add_block];exact Nat.ne_of_lt (Nat.lt_of_lt_of_le (by have := World.block_lt_of_cell? _ _ hw323_0;first|rwa [add_block] at this|exact this) GW329.out))|(dsimp only;exact Nat.ne_of_lt (Nat.lt_of_lt_of_le (by have := World.block_lt_of_cell? _ _ hw323_0;first|rwa [add_block] at this|exact this) GW329.out))) _).trans (((cell_far (p := ⟨gb329,_,none⟩) (by first|exact Nat.ne_of_lt (Nat.lt_of_lt_of_le (by have := World.block_lt_of_cell? _ _ hw323_0;first|rwa [add_block] at this|exact this) GW329.out)|(rw [add_block];exact Nat.ne_of_lt (Nat.lt_of_lt_of_le (by have := World.block_lt_of_cell? _ _ hw323_0;first|rwa [add_block] at this|exact this) GW329.out))|(show (Addr.add _ _).block ≠ _;rw [add_block];exact Nat.ne_of_lt (Nat.lt_of_lt_of_le (by have := World.block_lt_of_cell? _ _ hw323_0;first|rwa [add_block] at this|exact this) GW329.out))|(dsimp only;exact Nat.ne_of_lt (Nat.lt_of_lt_of_le (by have := World.block_lt_of_cell? _ _ hw323_0;first|rwa [add_block] at this|exact this) GW329.out))) _).trans (((cell_far (p := ⟨gb329,_,none⟩) (by first|exact Nat.ne_of_lt (Nat.lt_of_lt_of_le (by have := World.block_lt_of_cell? _ _ hw323_0;first|rwa [add_block] at this|exact this) GW329.out)|(rw [add_block];exact Nat.ne_of_lt (Nat.lt_of_lt_of_le (by have := World.block_lt_of_cell? _ _ hw323_0;first|rwa [add_block] at this|exact this) GW329.out))|(show (Addr.add _ _).block ≠ _;rw [add_block];exact Nat.ne_of_lt (Nat.lt_of_lt_of_le (by have := World.block_lt_of_cell? _ _ hw323_0;first|rwa [add_block] at this|exact this) GW329.out))|(dsimp only;exact Nat.ne_of_lt (Nat.lt_of_lt_of_le (by have := World.block_lt_of_cell? _ _ hw323_0;first|rwa [add_block] at this|exact this) GW329.out))) _).trans (hHeld.1)))))),((cell_far (p := ⟨gb329,_,none⟩) (by first|exact Nat.ne_of_lt (Nat.lt_of_lt_of_le (by have := World.block_lt_of_cell? _ _ hw324_0;first|rwa [add_block] at this|exact this) GW329.out)|(rw [add_block];exact Nat.ne_of_lt (Nat.lt_of_lt_of_le (by have := World.block_lt_of_cell? _ _ hw324_0;first|rwa [add_block] at this|exact this) GW329.out))|(show (Addr.add _ _).block ≠ _;rw [add_block];exact Nat.ne_of_lt (Nat.lt_of_lt_of_le (by have := World.block_lt_of_cell? _ _ hw324_0;first|rwa [add_block] at this|exact this) GW329.out))|(dsimp only;exact Nat.ne_of_lt (Nat.lt_of_lt_of_le (by have := World.block_lt_of_cell? _ _ hw324_0;first|rwa [add_block] at this|exact this) GW329.out))) _).trans (((cell_far (p := ⟨gb329,_,none⟩) (by first|exact Nat.ne_of_lt (Nat.lt_of_lt_of_le (by have := World.block_lt_of_cell? _ _ hw324_0;first|rwa [add_block] at this|exact this) GW329.out)|(rw [add_block];exact Nat.ne_of_lt (Nat.lt_of_lt_of_le (by have := World.block_lt_of_cell? _ _ hw324_0;first|rwa [add_block] at this|exact this) GW329.out))|(show (Addr.add _ _).block ≠ _;rw [add_block];exact Nat.ne_of_lt (Nat.lt_of_lt_of_le (by have := World.block_lt_of_cell? _ _ hw324_0;first|rwa [add_block] at this|exact this) GW329.out))|(dsimp only;exact Nat.ne_of_lt (Nat.lt_of_lt_of_le (by have := World.block_lt_of_cell? _ _ hw324_0;first|rwa [add_block] at this|exact this) GW329.out))) _).trans (((cell_far (p := ⟨gb329,_,none⟩) (by first|exact Nat.ne_of_lt (Nat.lt_of_lt_of_le (by have := World.block_lt_of_cell? _ _ hw324_0;first|rwa [add_block] at this|exact this) GW329.out)|(rw [add_block];exact Nat.ne_of_lt (Nat.lt_of_lt_of_le (by have := World.block_lt_of_cell? _ _ hw324_0;first|rwa [add_block] at this|exact this) GW329.out))|(show (Addr.add _ _).block ≠ _;rw [add_block];exact Nat.ne_of_lt (Nat.lt_of_lt_of_le (by have := World.block_lt_of_cell? _ _ hw324_0;first|rwa [add_block] at this|exact this) GW329.out))|(dsimp only;exact Nat.ne_of_lt (Nat.lt_of_lt_of_le (by have := World.block_lt_of_cell? _ _ hw324_0;first|rwa [add_block] at this|exact this) GW329.out))) _).trans (hHeld.2))))))⟩ (fun hHeld => ?_)
           clear hK K
           refine pure_ (i := 14) (N := some 8) (v := ?_) (a' := ?_) #[true,true,true,true,true,true,true,true,true,true,true,true,true,true,true] rfl rfl (any_of HT_.out (by kernel_rfl)) (fun _ _ _ h => h) (Or.inl ⟨by rfl,?_⟩) ?_ ?_
           rotate_left
           ·intro w'
            go_simp
            with_reducible rfl
           rotate_left
           ·simp only [Act.put, List.setIfInBounds_toArray, List.set_cons_zero, List.set_cons_succ, i64_w, i32_w]
            rfl
           refine done_ (done_of HT_.out (by kernel_rfl)) ?_
           have hcz19_0 : w15.cell? ⟨gb329, 0, none⟩ = some (.int .i64 0) := (blk_cell BK329.out 0).trans rfl
           have hcz19_1 : w15.cell? ⟨gb329, 1, none⟩ = some (.int .i64 0) := (blk_cell BK329.out 1).trans rfl
           have hcz19_2 : w15.cell? ⟨gb329, 2, none⟩ = some (.int .i64 0) := (blk_cell BK329.out 2).trans rfl
           have hfz19_0 := blk_frozen BK329.out 0
           have hfz19_1 := blk_frozen BK329.out 1
           have hfz19_2 := blk_frozen BK329.out 2
           try go_wp2
           go_roundg kj2
           case measure => have := HK1.out; have := HJ2.out; omega
           case rel => exact ⟨(x5_1),(wrap64 (x6_1 + 1)),(by first|rfl|(simp;done)|(simp [*];done)),H',⟨by have := HK1.out;have := HJ2.out;omega⟩,⟨by (with_reducible repeat (first|apply Kd.S_alloc|apply Kd.S_drewN|apply Kd.S_drew));exact Kd.S_mono (Kd.S_far (p := ⟨gb329,2,none⟩) (Kd.S_far (p := ⟨gb329,1,none⟩) (Kd.S_far (p := ⟨gb329,0,none⟩) (Kd.S_types HO_5.out BK329.out (by decide)) (fun _ hk => hk.2) (.int .i64 t325)) (fun _ hk => hk.2) (.int .i64 t326)) (fun _ hk => hk.2) (.int .i64 t327)) (fun _ hk => trivial)⟩,⟨by repeat (first|(with_reducible first|exact HB.out|apply below_alloc|apply pw_below_drewN|apply below_drew1|refine below_set ?_ GE329.out)|exact HB.out)⟩⟩
          ·rw [if_neg c11] at H
           have c11b0 : (t325 == 3) = false := beq_eq_false_iff_ne.mpr c11
           have c11b1 : (t325 != 3) = true := bne_iff_ne.mpr c11
           obtain ⟨y330, hy330⟩ : ∃ y_ : List Int, y_ = (([] : List Int)) := ⟨_, rfl⟩
           replace H : (if y330.length + (rd_L2 l0 x6_1).length < 140737488355328 then (if x5_1.length < 2513169434916 then (strakeref15_Read.l0 kj2 l0 l1 (x5_1 ++ [(⟨x6_1,(⟨t325,t326,t327⟩ : S40),(y330 ++ (rd_L2 l0 x6_1))⟩ : S42)]) (wrap64 (x6_1 + 1))) else (none)) else (none)) = some r := by first|(rw [hy330];with_reducible exact H)|(have H2_ := (Option.bind_some _ _).symm.trans H;rw [hy330];with_reducible exact H2_)|(have H2_ := (Option.bind_some _ _).symm.trans H;with_reducible exact H2_)|with_reducible exact H|(rw [hy330];exact H)|exact H
           have Ny330 := Aside0.mk hy330
           clear hy330
           by_cases c20 : y330.length + (rd_L2 l0 x6_1).length < 140737488355328
           ·rw [if_pos c20] at H
            have LMc20 := Aside0.mk c20
            clear c20
            obtain ⟨y334, hy334⟩ : ∃ y_ : List Int, y_ = (y330 ++ (rd_L2 l0 x6_1)) := ⟨_, rfl⟩
            replace H : (if x5_1.length < 2513169434916 then (strakeref15_Read.l0 kj2 l0 l1 (x5_1 ++ [(⟨x6_1,(⟨t325,t326,t327⟩ : S40),y334⟩ : S42)]) (wrap64 (x6_1 + 1))) else (none)) = some r := by first|(rw [hy334];with_reducible exact H)|(have H2_ := (Option.bind_some _ _).symm.trans H;rw [hy334];with_reducible exact H2_)|(have H2_ := (Option.bind_some _ _).symm.trans H;with_reducible exact H2_)|with_reducible exact H|(rw [hy334];exact H)|exact H
            have Ny334 := Aside0.mk hy334
            clear hy334
            by_cases c21 : x5_1.length < 2513169434916
            ·rw [if_pos c21] at H
             have LMc21 := Aside0.mk c21
             clear c21
             obtain ⟨y337,hy337⟩ : ∃ y_ : List (S42),y_ = (x5_1 ++ [(⟨x6_1,(⟨t325,t326,t327⟩ : S40),y334⟩ : S42)]) := ⟨_,rfl⟩
             replace H : (strakeref15_Read.l0 kj2 l0 l1 y337 (wrap64 (x6_1 + 1))) = some r := by first|(rw [hy337];with_reducible exact H)|(have H2_ := (Option.bind_some _ _).symm.trans H;rw [hy337];with_reducible exact H2_)|(have H2_ := (Option.bind_some _ _).symm.trans H;with_reducible exact H2_)|with_reducible exact H|(rw [hy337];exact H)|exact H
             have Ny337 := Aside0.mk hy337
             clear hy337
             have H' := Aside0.mk H
             clear H
             try go_wp2
             (try (rw [drewN_self wc];generalize hq_ : World.drewN wc _ = wc;have n0_ : Aside0 (Kd.S k42 42 wc w.heap.size (fun _ => True) u5 x5_1) := ⟨by rw [← hq_];exact (by (with_reducible repeat (first|apply Kd.S_alloc|apply Kd.S_drewN|apply Kd.S_drew));exact HO_5.out)⟩;have n1_ : Aside0 (Below w.heap.size w wc) := ⟨by rw [← hq_];exact (by repeat (first|(with_reducible first|exact HB.out|apply below_alloc|apply pw_below_drewN|apply below_drew1)|exact HB.out))⟩;clear HO_5 HB hq_;have HO_5 := n0_;have HB := n1_;clear n0_ n1_))
             have n0_ := Aside0.mk (Kd.S_drew HO_5.out)
             have n1_ := Aside0.mk (below_drew1 HB.out)
             clear HO_5
             clear HB
             have HO_5 := n0_
             have HB := n1_
             clear n0_ n1_
             have p323 : 0 ≤ (x6_1 : Int) := of_decide_eq_true (by first | (with_reducible assumption) | assumption)
             have q323 : x6_1 < (l1.length : Int) := of_decide_eq_true (by first|(with_reducible assumption)|assumption)
             obtain ⟨ad323, A323_0, c323_0, e323, hx323_0, hl323_0, hi323_0⟩ := at_L2 HR1.out x6_1 p323 q323
             have hw323_0 := hx323_0
             cases e323
             replace hx323_0 := (HB.out.cell (World.block_lt_of_cell? w _ hx323_0)).trans hx323_0
             have HR323_0 := Aside0.mk hi323_0
             have HC323_0 := Aside0.mk hl323_0
             clear hi323_0 hl323_0
             replace p323 := eq_true p323
             replace q323 := eq_true q323
             have p324 : 0 ≤ (x6_1 : Int) := of_decide_eq_true (by first | (with_reducible assumption) | assumption)
             have q324 : x6_1 < (l0.length : Int) := of_decide_eq_true (by first|(with_reducible assumption)|assumption)
             obtain ⟨ad324, A324_0, c324_0, e324, hx324_0, hl324_0, hi324_0⟩ := at_L2 HR0.out x6_1 p324 q324
             have hw324_0 := hx324_0
             cases e324
             replace hx324_0 := (HB.out.cell (World.block_lt_of_cell? w _ hx324_0)).trans hx324_0
             have HR324_0 := Aside0.mk hi324_0
             have HC324_0 := Aside0.mk hl324_0
             clear hi324_0 hl324_0
             replace p324 := eq_true p324
             replace q324 := eq_true q324
             refine start_ (n := 15) (S := fun w' => w'.cell? (ad323.add (x6_1).toNat) = some (.slice A323_0 (rd_L2 l1 x6_1).length c323_0) ∧ w'.cell? (ad324.add (x6_1).toNat) = some (.slice A324_0 (rd_L2 l0 x6_1).length c324_0)) (ds := []) #[false,false,false,false,false,false,false,false,false,false,false,false,false,false,false] (by kernel_rfl) rfl rfl ⟨((HB.out.cell (World.block_lt_of_cell? w _ hw323_0)).trans hw323_0),((HB.out.cell (World.block_lt_of_cell? w _ hw324_0)).trans hw324_0)⟩ (fun hHeld => ?_);refine with_tabW strakeref15_Read.tab5 strakeref15_Read.bits5 (fun HT_ HW_ => ?_)
             generalize wc.drew = w22 at HO_5 HB HR323_0 HR324_0 hx323_0 hx324_0 hHeld ⊢
             refine pure_ (i := 0) (N := some 22) (v := ?_) (a' := ?_) #[true,false,false,false,false,false,false,false,false,false,false,false,false,false,false] rfl rfl (any_of HT_.out (by kernel_rfl)) (fun _ _ _ h => h) (Or.inl ⟨by rfl,?_⟩) ?_ ?_
             rotate_left
             ·intro w'
              go_simp
              with_reducible rfl
             rotate_left
             ·simp only [Act.put, List.setIfInBounds_toArray, List.set_cons_zero, List.set_cons_succ, i64_w, i32_w]
              rfl
             refine pure_ (i := 1) (N := some 23) (v := ?_) (a' := ?_) #[true,true,false,false,false,false,false,false,false,false,false,false,false,false,false] rfl rfl (any_of HT_.out (by kernel_rfl)) (fun _ _ _ h => h) (Or.inl ⟨by rfl,?_⟩) ?_ ?_
             rotate_left
             ·intro w'
              go_simp
              with_reducible rfl
             rotate_left
             ·simp only [Act.put, List.setIfInBounds_toArray, List.set_cons_zero, List.set_cons_succ, i64_w, i32_w]
              rfl
             refine pure_ (i := 2) (N := some 24) (v := ?_) (a' := ?_) #[true,true,true,false,false,false,false,false,false,false,false,false,false,false,false] rfl rfl (any_of HT_.out (by kernel_rfl)) (fun _ _ _ h => h) (Or.inl ⟨by rfl,?_⟩) ?_ ?_
             rotate_left
             ·intro w'
              go_simp
              with_reducible rfl
             rotate_left
             ·simp only [Act.put, List.setIfInBounds_toArray, List.set_cons_zero, List.set_cons_succ, i64_w, i32_w]
              rfl
             refine pure_ (i := 4) (N := some 26) (v := ?_) (a' := ?_) #[true,true,true,false,true,false,false,false,false,false,false,false,false,false,false] rfl rfl (any_of HT_.out (by kernel_rfl)) (fun _ _ _ h => h) (Or.inl ⟨by rfl,?_⟩) ?_ ?_
             rotate_left
             ·intro w'
              go_simp
              with_reducible rfl
             rotate_left
             ·simp only [Act.put, List.setIfInBounds_toArray, List.set_cons_zero, List.set_cons_succ, i64_w, i32_w]
              rfl
             refine pure_ (i := 5) (N := some 27) (v := ?_) (a' := ?_) #[true,true,true,false,true,true,false,false,false,false,false,false,false,false,false] rfl rfl (any_of HT_.out (by kernel_rfl)) (fun _ _ _ h => h) (Or.inl ⟨by rfl,?_⟩) ?_ ?_
             rotate_left
             ·intro w'
              go_simp
              with_reducible rfl
             rotate_left
             ·simp only [Act.put, List.setIfInBounds_toArray, List.set_cons_zero, List.set_cons_succ, i64_w, i32_w]
              rfl
             refine pure_ (i := 6) (N := some 28) (v := ?_) (a' := ?_) #[true,true,true,false,true,true,true,false,false,false,false,false,false,false,false] rfl rfl (any_of HT_.out (by kernel_rfl)) (fun _ _ _ h => h) (Or.inl ⟨by rfl,?_⟩) ?_ ?_
             rotate_left
             ·intro w'
              go_simp
              with_reducible rfl
             rotate_left
             ·simp only [Act.put, List.setIfInBounds_toArray, List.set_cons_zero, List.set_cons_succ, i64_w, i32_w]
              rfl
             refine take_ (i := 3) (N := some 25) (v := ?_) (a' := ?_) #[true,true,true,true,true,true,true,false,false,false,false,false,false,false,false] rfl rfl (take_ofW HT_.out HW_.out (by kernel_rfl)) (fun _ _ _ h => h) (Or.inl ⟨by rfl,?_⟩) hHeld ?_ ?_
             rotate_left
             ·rintro w' ⟨s0, s1⟩
              go_simp
              with_reducible rfl
             rotate_left
             ·simp only [Act.put, List.setIfInBounds_toArray, List.set_cons_zero, List.set_cons_succ, i64_w, i32_w]
              rfl
             refine take_ (i := 7) (N := some 29) (v := ?_) (a' := ?_) #[true,true,true,true,true,true,true,true,false,false,false,false,false,false,false] rfl rfl (take_ofW HT_.out HW_.out (by kernel_rfl)) (fun _ _ _ h => h) (Or.inl ⟨by rfl,?_⟩) hHeld ?_ ?_
             rotate_left
             ·rintro w' ⟨s0, s1⟩
              go_simp
              with_reducible rfl
             rotate_left
             ·simp only [Act.put, List.setIfInBounds_toArray, List.set_cons_zero, List.set_cons_succ, i64_w, i32_w]
              rfl
             refine join_ (σ := Nat) 2 #[true,true,true,true,true,true,true,true,true,true,true,true,true,false,false] (fun s_ => [(30,.tuple #[.agg #[.int .i64 t325,.int .i64 t326,.int .i64 t327],.int .i64 t328]),(7,.pointer (some ⟨s_,0,none⟩)),(21,.tuple #[.agg #[.int .i64 t325,.int .i64 t326,.int .i64 t327],.int .i64 t328]),(31,.agg #[.int .i64 t325,.int .i64 t326,.int .i64 t327]),(32,.int .i64 t328)]) (fun s_ w' => (w'.cell? (ad323.add (x6_1).toNat) = some (.slice A323_0 (rd_L2 l1 x6_1).length c323_0) ∧ w'.cell? (ad324.add (x6_1).toNat) = some (.slice A324_0 (rd_L2 l0 x6_1).length c324_0)) ∧ (Kd.S k42 42 w' w.heap.size (fun _ => True) u5 x5_1) ∧ (w'.heap[s_]? = some (.cells #[.int .i64 0,.int .i64 0,.int .i64 0] 40 (0,0))) ∧ (w.heap.size ≤ s_) ∧ (w.heap.size ≤ s_) ∧ (Below w.heap.size w w')) ?_ ?_
             rotate_left
             ·intro hCont
              refine two_ (i := 8) (j := 12) (Ni := some 30) (Nj := some 7) #[true,true,true,true,true,true,true,true,true,false,false,false,false,false,false] #[true,true,true,true,true,true,true,true,false,false,false,false,true,false,false] rfl rfl rfl rfl (two_of HT_.out (by kernel_rfl)) (by decide) (by decide) (fun K hK => ?_) (fun K hK => ?_)
              ·skip
               refine goes_ Try.func28 (by kernel_rfl) rfl #[.slice A323_0 (rd_L2 l1 x6_1).length c323_0,.slice A324_0 (rd_L2 l0 x6_1).length c324_0] (by rfl) rfl rfl (by (try simp only [List.map_toArray,List.map_cons,List.map_nil]);first|done|rfl|(simp only [List.length_drop,List.length_take];rfl)) ?_
               with_reducible refine (strakeref05_Unpack.calls kj2 _ _ (rd_L2 l1 x6_1) _ _ (rd_L2 l0 x6_1) t325 t326 t327 t328 _ ?side1 ?side2 ?side3 ?side4 A9.out).mono ?_
               (case side1 => repeat (first|exact (Kd.C_below HR323_0.out HB.out)|(with_reducible refine Kd.C_alloc ?_ _)|(with_reducible refine Kd.C_drewN ?_ _)|(with_reducible refine Kd.C_drew ?_)))
               (case side2 => exact HC323_0.out)
               (case side3 => repeat (first|exact (Kd.C_below HR324_0.out HB.out)|(with_reducible refine Kd.C_alloc ?_ _)|(with_reducible refine Kd.C_drewN ?_ _)|(with_reducible refine Kd.C_drew ?_)))
               (case side4 => exact HC324_0.out)
               rintro e w23 ⟨rfl, hb⟩
               refine ⟨_, rfl, ?_⟩
               have n0_ := Aside0.mk (Kd.S_below (by (with_reducible repeat (first|apply Kd.S_alloc|apply Kd.S_drewN|apply Kd.S_drew));exact HO_5.out) hb)
               have n1_ := Aside0.mk (below_step (by repeat (first|(with_reducible first|exact HB.out|apply below_alloc|apply pw_below_drewN|apply below_drew1)|exact HB.out)) hb)
               clear HO_5
               clear HB
               have HO_5 := n0_
               have HB := n1_
               clear n0_ n1_
               (try clear hb)
               (try clear hb2)
               (try clear hk)
               (try clear hi)
               refine hK.out _ _ ⟨((HB.out.cell (World.block_lt_of_cell? w _ hw323_0)).trans hw323_0),((HB.out.cell (World.block_lt_of_cell? w _ hw324_0)).trans hw324_0)⟩ (fun hHeld => ?_)
               clear hK K
               refine norm_ (a' := ?_) ?_ ?_
               rotate_left
               ·show Act.put _ (some 30) _ = _
                simp only [Act.put, List.setIfInBounds_toArray, List.set_cons_zero, List.set_cons_succ, i64_w, i32_w]
                rfl
               refine pure_ (i := 9) (N := some 21) (v := ?_) (a' := ?_) #[true,true,true,true,true,true,true,true,true,true,false,false,false,false,false] rfl rfl (any_of HT_.out (by kernel_rfl)) (fun _ _ _ h => h) (Or.inl ⟨by rfl,?_⟩) ?_ ?_
               rotate_left
               ·intro w'
                go_simp
                with_reducible rfl
               rotate_left
               ·simp only [Act.put, List.setIfInBounds_toArray, List.set_cons_zero, List.set_cons_succ, i64_w, i32_w]
                rfl
               refine pure_ (i := 10) (N := some 31) (v := ?_) (a' := ?_) #[true,true,true,true,true,true,true,true,true,true,true,false,false,false,false] rfl rfl (any_of HT_.out (by kernel_rfl)) (fun _ _ _ h => h) (Or.inl ⟨by rfl,?_⟩) ?_ ?_
               rotate_left
               ·intro w'
                go_simp
                with_reducible rfl
               rotate_left
               ·simp only [Act.put, List.setIfInBounds_toArray, List.set_cons_zero, List.set_cons_succ, i64_w, i32_w]
                rfl
               refine pure_ (i := 11) (N := some 32) (v := ?_) (a' := ?_) #[true,true,true,true,true,true,true,true,true,true,true,true,false,false,false] rfl rfl (any_of HT_.out (by kernel_rfl)) (fun _ _ _ h => h) (Or.inl ⟨by rfl,?_⟩) ?_ ?_
               rotate_left
               ·intro w'
                go_simp
                with_reducible rfl
               rotate_left
               ·simp only [Act.put, List.setIfInBounds_toArray, List.set_cons_zero, List.set_cons_succ, i64_w, i32_w]
                rfl
               refine one_ (i := 12) (N := some 7) #[true,true,true,true,true,true,true,true,true,true,true,true,true,false,false] rfl rfl (one_of HT_.out (by kernel_rfl)) (by decide) (fun K hK => ?_)
               refine box_step ?hg (N := 7) ?hd (cs := #[.int .i64 0,.int .i64 0,.int .i64 0]) (t := 40) ?hr ?_;(case hd => rfl);(case hg => rfl);(case hr => first|(go_simp;done)|(go_simp;rfl))
               intro gb329 hg w24 hbox hb
               have n0_ := Aside0.mk (Kd.S_below (by (with_reducible repeat (first|apply Kd.S_alloc|apply Kd.S_drewN|apply Kd.S_drew));exact HO_5.out) hb)
               have n1_ := Aside0.mk (below_step (by repeat (first|(with_reducible first|exact HB.out|apply below_alloc|apply pw_below_drewN|apply below_drew1)|exact HB.out)) hb)
               have n2_ := Aside0.mk (hbox)
               have n3_ := Aside0.mk ((by rw [hg];exact (below_size (by repeat (first|(with_reducible first|exact HB.out|apply below_alloc|apply pw_below_drewN|apply below_drew1)|exact HB.out))) : w.heap.size ≤ gb329))
               have n4_ := Aside0.mk ((by rw [hg];exact (below_size (by repeat (first|(with_reducible first|exact HB.out|apply below_alloc|apply pw_below_drewN|apply below_drew1)|exact HB.out))) : w.heap.size ≤ gb329))
               clear HO_5
               clear HB
               have HO_5 := n0_
               have HB := n1_
               have BK329 := n2_
               have GW329 := n3_
               have GE329 := n4_
               clear n0_ n1_ n2_ n3_ n4_
               clear hb hbox hg
               refine hK.out _ _ ⟨((HB.out.cell (World.block_lt_of_cell? w _ hw323_0)).trans hw323_0),((HB.out.cell (World.block_lt_of_cell? w _ hw324_0)).trans hw324_0)⟩ (fun hHeld => ?_)
               clear hK K
               refine norm_ (a' := ?_) ?_ ?_
               rotate_left
               ·show Act.put _ (some 7) _ = _
                simp only [Act.put, List.setIfInBounds_toArray, List.set_cons_zero, List.set_cons_succ, i64_w, i32_w]
                rfl
               exact norm_ (by simp only [putAll,Act.put,List.setIfInBounds_toArray,List.set_cons_zero,List.set_cons_succ]) (hCont (gb329) _ ⟨hHeld,(by (with_reducible repeat (first|apply Kd.S_alloc|apply Kd.S_drewN|apply Kd.S_drew));exact HO_5.out),(by (with_reducible repeat (first|refine blk_drewN ?_ _|refine blk_drew ?_|refine blk_alloc ?_ _));exact BK329.out),GW329.out,GE329.out,(by repeat (first|(with_reducible first|exact HB.out|apply below_alloc|apply pw_below_drewN|apply below_drew1|refine below_set ?_ GE329.out)|exact HB.out))⟩)
              ·skip
               refine box_step ?hg (N := 7) ?hd (cs := #[.int .i64 0,.int .i64 0,.int .i64 0]) (t := 40) ?hr ?_;(case hd => rfl);(case hg => rfl);(case hr => first|(go_simp;done)|(go_simp;rfl))
               intro gb329 hg w23 hbox hb
               have n0_ := Aside0.mk (Kd.S_below (by (with_reducible repeat (first|apply Kd.S_alloc|apply Kd.S_drewN|apply Kd.S_drew));exact HO_5.out) hb)
               have n1_ := Aside0.mk (below_step (by repeat (first|(with_reducible first|exact HB.out|apply below_alloc|apply pw_below_drewN|apply below_drew1)|exact HB.out)) hb)
               have n2_ := Aside0.mk (hbox)
               have n3_ := Aside0.mk ((by rw [hg];exact (below_size (by repeat (first|(with_reducible first|exact HB.out|apply below_alloc|apply pw_below_drewN|apply below_drew1)|exact HB.out))) : w.heap.size ≤ gb329))
               have n4_ := Aside0.mk ((by rw [hg];exact (below_size (by repeat (first|(with_reducible first|exact HB.out|apply below_alloc|apply pw_below_drewN|apply below_drew1)|exact HB.out))) : w.heap.size ≤ gb329))
               clear HO_5
               clear HB
               have HO_5 := n0_
               have HB := n1_
               have BK329 := n2_
               have GW329 := n3_
               have GE329 := n4_
               clear n0_ n1_ n2_ n3_ n4_
               clear hb hbox hg
               refine hK.out _ _ ⟨((HB.out.cell (World.block_lt_of_cell? w _ hw323_0)).trans hw323_0),((HB.out.cell (World.block_lt_of_cell? w _ hw324_0)).trans hw324_0)⟩ (fun hHeld => ?_)
               clear hK K
               refine norm_ (a' := ?_) ?_ ?_
               rotate_left
               ·show Act.put _ (some 7) _ = _
                simp only [Act.put, List.setIfInBounds_toArray, List.set_cons_zero, List.set_cons_succ, i64_w, i32_w]
                rfl
               refine one_ (i := 8) (N := some 30) #[true,true,true,true,true,true,true,true,true,false,false,false,true,false,false] rfl rfl (one_of HT_.out (by kernel_rfl)) (by decide) (fun K hK => ?_)
               refine goes_ Try.func28 (by kernel_rfl) rfl #[.slice A323_0 (rd_L2 l1 x6_1).length c323_0,.slice A324_0 (rd_L2 l0 x6_1).length c324_0] (by rfl) rfl rfl (by (try simp only [List.map_toArray,List.map_cons,List.map_nil]);first|done|rfl|(simp only [List.length_drop,List.length_take];rfl)) ?_
               with_reducible refine (strakeref05_Unpack.calls kj2 _ _ (rd_L2 l1 x6_1) _ _ (rd_L2 l0 x6_1) t325 t326 t327 t328 _ ?side1 ?side2 ?side3 ?side4 A9.out).mono ?_
               (case side1 => repeat (first|exact (Kd.C_below HR323_0.out HB.out)|(with_reducible refine Kd.C_alloc ?_ _)|(with_reducible refine Kd.C_drewN ?_ _)|(with_reducible refine Kd.C_drew ?_)))
               (case side2 => exact HC323_0.out)
               (case side3 => repeat (first|exact (Kd.C_below HR324_0.out HB.out)|(with_reducible refine Kd.C_alloc ?_ _)|(with_reducible refine Kd.C_drewN ?_ _)|(with_reducible refine Kd.C_drew ?_)))
               (case side4 => exact HC324_0.out)
               rintro e w24 ⟨rfl, hb⟩
               refine ⟨_, rfl, ?_⟩
               have n0_ := Aside0.mk (Kd.S_below (by (with_reducible repeat (first|apply Kd.S_alloc|apply Kd.S_drewN|apply Kd.S_drew));exact HO_5.out) hb)
               have n1_ := Aside0.mk (blk_below (g := gb329) (o := .cells #[.int .i64 0,.int .i64 0,.int .i64 0] 40 (0,0)) (by (with_reducible repeat (first|refine blk_drewN ?_ _|refine blk_drew ?_|refine blk_alloc ?_ _));exact BK329.out) hb)
               have n2_ := Aside0.mk (below_step (by repeat (first|(with_reducible first|exact HB.out|apply below_alloc|apply pw_below_drewN|apply below_drew1|refine below_set ?_ GE329.out)|exact HB.out)) hb)
               clear HO_5
               clear BK329
               clear HB
               have HO_5 := n0_
               have BK329 := n1_
               have HB := n2_
               clear n0_ n1_ n2_
               (try clear hb)
               (try clear hb2)
               (try clear hk)
               (try clear hi)
               refine hK.out _ _ ⟨((HB.out.cell (World.block_lt_of_cell? w _ hw323_0)).trans hw323_0),((HB.out.cell (World.block_lt_of_cell? w _ hw324_0)).trans hw324_0)⟩ (fun hHeld => ?_)
               clear hK K
               refine norm_ (a' := ?_) ?_ ?_
               rotate_left
               ·show Act.put _ (some 30) _ = _
                simp only [Act.put, List.setIfInBounds_toArray, List.set_cons_zero, List.set_cons_succ, i64_w, i32_w]
                rfl
               refine pure_ (i := 9) (N := some 21) (v := ?_) (a' := ?_) #[true,true,true,true,true,true,true,true,true,true,false,false,true,false,false] rfl rfl (any_of HT_.out (by kernel_rfl)) (fun _ _ _ h => h) (Or.inl ⟨by rfl,?_⟩) ?_ ?_
               rotate_left
               ·intro w'
                go_simp
                with_reducible rfl
               rotate_left
               ·simp only [Act.put, List.setIfInBounds_toArray, List.set_cons_zero, List.set_cons_succ, i64_w, i32_w]
                rfl
               refine pure_ (i := 10) (N := some 31) (v := ?_) (a' := ?_) #[true,true,true,true,true,true,true,true,true,true,true,false,true,false,false] rfl rfl (any_of HT_.out (by kernel_rfl)) (fun _ _ _ h => h) (Or.inl ⟨by rfl,?_⟩) ?_ ?_
               rotate_left
               ·intro w'
                go_simp
                with_reducible rfl
               rotate_left
               ·simp only [Act.put, List.setIfInBounds_toArray, List.set_cons_zero, List.set_cons_succ, i64_w, i32_w]
                rfl
               refine pure_ (i := 11) (N := some 32) (v := ?_) (a' := ?_) #[true,true,true,true,true,true,true,true,true,true,true,true,true,false,false] rfl rfl (any_of HT_.out (by kernel_rfl)) (fun _ _ _ h => h) (Or.inl ⟨by rfl,?_⟩) ?_ ?_
               rotate_left
               ·intro w'
                go_simp
                with_reducible rfl
               rotate_left
               ·simp only [Act.put, List.setIfInBounds_toArray, List.set_cons_zero, List.set_cons_succ, i64_w, i32_w]
                rfl
               exact norm_ (by simp only [putAll,Act.put,List.setIfInBounds_toArray,List.set_cons_zero,List.set_cons_succ]) (hCont (gb329) _ ⟨hHeld,(by (with_reducible repeat (first|apply Kd.S_alloc|apply Kd.S_drewN|apply Kd.S_drew));exact HO_5.out),(by (with_reducible repeat (first|refine blk_drewN ?_ _|refine blk_drew ?_|refine blk_alloc ?_ _));exact BK329.out),GW329.out,GE329.out,(by repeat (first|(with_reducible first|exact HB.out|apply below_alloc|apply pw_below_drewN|apply below_drew1|refine below_set ?_ GE329.out)|exact HB.out))⟩)
             rintro gb329 w25 ⟨hS_, h0_, h1_, h2_, h3_, h4_⟩
             have n0_ : Aside0 (Kd.S k42 42 w25 w.heap.size (fun _ => True) u5 x5_1) := ⟨h0_⟩
             have n1_ : Aside0 (w25.heap[gb329]? = some (.cells #[.int .i64 0,.int .i64 0,.int .i64 0] 40 (0,0))) := ⟨h1_⟩
             have n2_ : Aside0 (w.heap.size ≤ gb329) := ⟨h2_⟩
             have n3_ : Aside0 (w.heap.size ≤ gb329) := ⟨h3_⟩
             have n4_ : Aside0 (Below w.heap.size w w25) := ⟨h4_⟩
             clear HO_5
             clear HB
             clear h0_ h1_ h2_ h3_ h4_
             have HO_5 := n0_
             have BK329 := n1_
             have GW329 := n2_
             have GE329 := n3_
             have HB := n4_
             clear n0_ n1_ n2_ n3_ n4_
             have hHeld : w25.cell? (ad323.add (x6_1).toNat) = some (.slice A323_0 (rd_L2 l1 x6_1).length c323_0) ∧ w25.cell? (ad324.add (x6_1).toNat) = some (.slice A324_0 (rd_L2 l0 x6_1).length c324_0) := hS_
             refine norm_ (a' := ?_) ?_ ?_
             rotate_left
             ·simp only [putAll, Act.put, List.setIfInBounds_toArray, List.set_cons_zero, List.set_cons_succ]
              rfl
             refine one_ (i := 13) (N := none) #[true,true,true,true,true,true,true,true,true,true,true,true,true,true,false] rfl rfl (one_of HT_.out (by kernel_rfl)) (by decide) (fun K hK => ?_)
             have hs26 : w25.cell? ⟨gb329, 0, none⟩ = some (.int .i64 0) := (blk_cell BK329.out 0).trans rfl
             have hfs26 := blk_frozen BK329.out 0
             have hs27 : w25.cell? ⟨gb329, 1, none⟩ = some (.int .i64 0) := (blk_cell BK329.out 1).trans rfl
             have hfs27 := blk_frozen BK329.out 1
             have hs28 : w25.cell? ⟨gb329, 2, none⟩ = some (.int .i64 0) := (blk_cell BK329.out 2).trans rfl
             have hfs28 := blk_frozen BK329.out 2
             refine skip_ (w1 := ?_) (by rfl) rfl ?_ ?_
             rotate_left
             ·go_simp
              rfl
             refine hK.out _ _ ⟨((cell_far (p := ⟨gb329,_,none⟩) (by first|exact Nat.ne_of_lt (Nat.lt_of_lt_of_le (by have := World.block_lt_of_cell? _ _ hw323_0;first|rwa [add_block] at this|exact this) GW329.out)|(rw [add_block];exact Nat.ne_of_lt (Nat.lt_of_lt_of_le (by have := World.block_lt_of_cell? _ _ hw323_0;first|rwa [add_block] at this|exact this) GW329.out))|(show (Addr.add _ _).block ≠ _;rw [add_block];exact Nat.ne_of_lt (Nat.lt_of_lt_of_le (by have := World.block_lt_of_cell? _ _ hw323_0;first|rwa [add_block] at this|exact this) GW329.out))|(dsimp only;exact Nat.ne_of_lt (Nat.lt_of_lt_of_le (by have := World.block_lt_of_cell? _ _ hw323_0;first|rwa [add_block] at this|exact this) GW329.out))) _).trans (((cell_far (p := ⟨gb329,_,none⟩) (by first|exact Nat.ne_of_lt (Nat.lt_of_lt_of_le (by have := World.block_lt_of_cell? _ _ hw323_0;first|rwa [add_block] at this|exact this) GW329.out)|(rw [add_block];exact Nat.ne_of_lt (Nat.lt_of_lt_of_le (by have := World.block_lt_of_cell? _ _ hw323_0;first|rwa [add_block] at this|exact this) GW329.out))|(show (Addr.add _ _).block ≠ _;rw [add_block];exact Nat.ne_of_lt (Nat.lt_of_lt_of_le (by have := World.block_lt_of_cell? _ _ hw323_0;first|rwa [add_block] at this|exact this) GW329.out))|(dsimp only;exact Nat.ne_of_lt (Nat.lt_of_lt_of_le (by have := World.block_lt_of_cell? _ _ hw323_0;first|rwa [add_block] at this|exact this) GW329.out))) _).trans (((cell_far (p := ⟨gb329,_,none⟩) (by first|exact Nat.ne_of_lt (Nat.lt_of_lt_of_le (by have := World.block_lt_of_cell? _ _ hw323_0;first|rwa [add_block] at this|exact this) GW329.out)|(rw [add_block];exact Nat.ne_of_lt (Nat.lt_of_lt_of_le (by have := World.block_lt_of_cell? _ _ hw323_0;first|rwa [add_block] at this|exact this) GW329.out))|(show (Addr.add _ _).block ≠ _;rw [add_block];exact Nat.ne_of_lt (Nat.lt_of_lt_of_le (by have := World.block_lt_of_cell? _ _ hw323_0;first|rwa [add_block] at this|exact this) GW329.out))|(dsimp only;exact Nat.ne_of_lt (Nat.lt_of_lt_of_le (by have := World.block_lt_of_cell? _ _ hw323_0;first|rwa [add_block] at this|exact this) GW329.out))) _).trans (hHeld.1)))))),((cell_far (p := ⟨gb329,_,none⟩) (by first|exact Nat.ne_of_lt (Nat.lt_of_lt_of_le (by have := World.block_lt_of_cell? _ _ hw324_0;first|rwa [add_block] at this|exact this) GW329.out)|(rw [add_block];exact Nat.ne_of_lt (Nat.lt_of_lt_of_le (by have := World.block_lt_of_cell? _ _ hw324_0;first|rwa [add_block] at this|exact this) GW329.out))|(show (Addr.add _ _).block ≠ _;rw [add_block];exact Nat.ne_of_lt (Nat.lt_of_lt_of_le (by have := World.block_lt_of_cell? _ _ hw324_0;first|rwa [add_block] at this|exact this) GW329.out))|(dsimp only;exact Nat.ne_of_lt (Nat.lt_of_lt_of_le (by have := World.block_lt_of_cell? _ _ hw324_0;first|rwa [add_block] at this|exact this) GW329.out))) _).trans (((cell_far (p := ⟨gb329,_,none⟩) (by first|exact Nat.ne_of_lt (Nat.lt_of_lt_of_le (by have := World.block_lt_of_cell? _ _ hw324_0;first|rwa [add_block] at this|exact this) GW329.out)|(rw [add_block];exact Nat.ne_of_lt (Nat.lt_of_lt_of_le (by have := World.block_lt_of_cell? _ _ hw324_0;first|rwa [add_block] at this|exact this) GW329.out))|(show (Addr.add _ _).block ≠ _;rw [add_block];exact Nat.ne_of_lt (Nat.lt_of_lt_of_le (by have := World.block_lt_of_cell? _ _ hw324_0;first|rwa [add_block] at this|exact this) GW329.out))|(dsimp only;exact Nat.ne_of_lt (Nat.lt_of_lt_of_le (by have := World.block_lt_of_cell? _ _ hw324_0;first|rwa [add_block] at this|exact this) GW329.out))) _).trans (((cell_far (p := ⟨gb329,_,none⟩) (by first|exact Nat.ne_of_lt (Nat.lt_of_lt_of_le (by have := World.block_lt_of_cell? _ _ hw324_0;first|rwa [add_block] at this|exact this) GW329.out)|(rw [add_block];exact Nat.ne_of_lt (Nat.lt_of_lt_of_le (by have := World.block_lt_of_cell? _ _ hw324_0;first|rwa [add_block] at this|exact this) GW329.out))|(show (Addr.add _ _).block ≠ _;rw [add_block];exact Nat.ne_of_lt (Nat.lt_of_lt_of_le (by have := World.block_lt_of_cell? _ _ hw324_0;first|rwa [add_block] at this|exact this) GW329.out))|(dsimp only;exact Nat.ne_of_lt (Nat.lt_of_lt_of_le (by have := World.block_lt_of_cell? _ _ hw324_0;first|rwa [add_block] at this|exact this) GW329.out))) _).trans (hHeld.2))))))⟩ (fun hHeld => ?_)
             clear hK K
             refine pure_ (i := 14) (N := some 8) (v := ?_) (a' := ?_) #[true,true,true,true,true,true,true,true,true,true,true,true,true,true,true] rfl rfl (any_of HT_.out (by kernel_rfl)) (fun _ _ _ h => h) (Or.inl ⟨by rfl,?_⟩) ?_ ?_
             rotate_left
             ·intro w'
              go_simp
              with_reducible rfl
             rotate_left
             ·simp only [Act.put, List.setIfInBounds_toArray, List.set_cons_zero, List.set_cons_succ, i64_w, i32_w]
              rfl
             refine done_ (done_of HT_.out (by kernel_rfl)) ?_
             have hcz29_0 : w25.cell? ⟨gb329, 0, none⟩ = some (.int .i64 0) := (blk_cell BK329.out 0).trans rfl
             have hcz29_1 : w25.cell? ⟨gb329, 1, none⟩ = some (.int .i64 0) := (blk_cell BK329.out 1).trans rfl
             have hcz29_2 : w25.cell? ⟨gb329, 2, none⟩ = some (.int .i64 0) := (blk_cell BK329.out 2).trans rfl
             have hfz29_0 := blk_frozen BK329.out 0
             have hfz29_1 := blk_frozen BK329.out 1
             have hfz29_2 := blk_frozen BK329.out 2
             try go_wp2
             have n0_ : Aside0 (Kd.S k42 42 (((w25.setCell ⟨gb329,0,none⟩ (.int .i64 t325)).setCell ⟨gb329,1,none⟩ (.int .i64 t326)).setCell ⟨gb329,2,none⟩ (.int .i64 t327)) w.heap.size (fun _ => True) u5 x5_1) := ⟨by (with_reducible repeat (first|apply Kd.S_alloc|apply Kd.S_drewN|apply Kd.S_drew));exact Kd.S_mono (Kd.S_far (p := ⟨gb329,2,none⟩) (Kd.S_far (p := ⟨gb329,1,none⟩) (Kd.S_far (p := ⟨gb329,0,none⟩) (Kd.S_types HO_5.out BK329.out (by decide)) (fun _ hk => hk.2) (.int .i64 t325)) (fun _ hk => hk.2) (.int .i64 t326)) (fun _ hk => hk.2) (.int .i64 t327)) (fun _ hk => trivial)⟩
             have n1_ : Aside0 ((((w25.setCell ⟨gb329,0,none⟩ (.int .i64 t325)).setCell ⟨gb329,1,none⟩ (.int .i64 t326)).setCell ⟨gb329,2,none⟩ (.int .i64 t327)).heap[gb329]? = some (.cells #[.int .i64 t325,.int .i64 t326,.int .i64 t327] 40 (0,0))) := ⟨by (with_reducible repeat (first|refine blk_drewN ?_ _|refine blk_drew ?_|refine blk_alloc ?_ _));refine blk_put (cs := #[.int .i64 t325,.int .i64 t326,.int .i64 0]) ?_ 2 _ rfl;(with_reducible repeat (first|refine blk_drewN ?_ _|refine blk_drew ?_|refine blk_alloc ?_ _));refine blk_put (cs := #[.int .i64 t325,.int .i64 0,.int .i64 0]) ?_ 1 _ rfl;(with_reducible repeat (first|refine blk_drewN ?_ _|refine blk_drew ?_|refine blk_alloc ?_ _));refine blk_put (cs := #[.int .i64 0,.int .i64 0,.int .i64 0]) ?_ 0 _ rfl;(with_reducible repeat (first|refine blk_drewN ?_ _|refine blk_drew ?_|refine blk_alloc ?_ _));exact BK329.out⟩
             have n2_ : Aside0 (Below w.heap.size w (((w25.setCell ⟨gb329,0,none⟩ (.int .i64 t325)).setCell ⟨gb329,1,none⟩ (.int .i64 t326)).setCell ⟨gb329,2,none⟩ (.int .i64 t327))) := ⟨by repeat (first|(with_reducible first|exact HB.out|apply below_alloc|apply pw_below_drewN|apply below_drew1|refine below_set ?_ GE329.out)|exact HB.out)⟩
             (try clear HO_5)
             (try clear BK329)
             (try clear HB)
             (try simp only [IntKind.wrap_u8, IntKind.wrap_u32])
             generalize (((w25.setCell ⟨gb329,0,none⟩ (.int .i64 t325)).setCell ⟨gb329,1,none⟩ (.int .i64 t326)).setCell ⟨gb329,2,none⟩ (.int .i64 t327)) = w30 at n0_ n1_ n2_ ⊢
             have HO_5 := n0_
             have BK329 := n1_
             have HB := n2_
             clear n0_ n1_ n2_
             (try (rw [drewN_self w30];generalize hq_ : World.drewN w30 _ = w30;have n0_ : Aside0 (Kd.S k42 42 w30 w.heap.size (fun _ => True) u5 x5_1) := ⟨by rw [← hq_];exact (by (with_reducible repeat (first|apply Kd.S_alloc|apply Kd.S_drewN|apply Kd.S_drew));exact HO_5.out)⟩;have n1_ : Aside0 (w30.heap[gb329]? = some (.cells #[.int .i64 t325,.int .i64 t326,.int .i64 t327] 40 (0,0))) := ⟨by rw [← hq_];exact (by (with_reducible repeat (first|refine blk_drewN ?_ _|refine blk_drew ?_|refine blk_alloc ?_ _));exact BK329.out)⟩;have n2_ : Aside0 (Below w.heap.size w w30) := ⟨by rw [← hq_];exact (by repeat (first|(with_reducible first|exact HB.out|apply below_alloc|apply pw_below_drewN|apply below_drew1|refine below_set ?_ GE329.out)|exact HB.out))⟩;clear HO_5 BK329 HB hq_;have HO_5 := n0_;have BK329 := n1_;have HB := n2_;clear n0_ n1_ n2_))
             have n0_ := Aside0.mk (Kd.S_drew HO_5.out)
             have n1_ := Aside0.mk (blk_drew BK329.out)
             have n2_ := Aside0.mk (below_drew1 HB.out)
             clear HO_5
             clear BK329
             clear HB
             have HO_5 := n0_
             have BK329 := n1_
             have HB := n2_
             clear n0_ n1_ n2_
             have p333 : 0 ≤ (x6_1 : Int) := of_decide_eq_true (by first | (with_reducible assumption) | assumption)
             have q333 : x6_1 < (l0.length : Int) := of_decide_eq_true (by first|(with_reducible assumption)|assumption)
             obtain ⟨ad333, A333_0, c333_0, e333, hx333_0, hl333_0, hi333_0⟩ := at_L2 HR0.out x6_1 p333 q333
             have hw333_0 := hx333_0
             obtain rfl : ad324 = ad333 := (by injection e333)
             replace hx333_0 := (HB.out.cell (World.block_lt_of_cell? w _ hx333_0)).trans hx333_0
             have HR333_0 := Aside0.mk hi333_0
             have HC333_0 := Aside0.mk hl333_0
             clear hi333_0 hl333_0
             replace p333 := eq_true p333
             replace q333 := eq_true q333
             refine start_ (n := 13) (S := fun w' => w'.cell? ⟨gb329,0,none⟩ = some (.int .i64 t325) ∧ w'.cell? ⟨gb329,1,none⟩ = some (.int .i64 t326) ∧ w'.cell? ⟨gb329,2,none⟩ = some (.int .i64 t327) ∧ w'.cell? (ad324.add (x6_1).toNat) = some (.slice A333_0 (rd_L2 l0 x6_1).length c333_0)) (ds := []) #[false,false,false,false,false,false,false,false,false,false,false,false,false] (by kernel_rfl) rfl rfl ⟨(blk_cell BK329.out 0).trans rfl,(blk_cell BK329.out 1).trans rfl,(blk_cell BK329.out 2).trans rfl,((HB.out.cell (World.block_lt_of_cell? w _ hw333_0)).trans hw333_0)⟩ (fun hHeld => ?_);refine with_tabW strakeref15_Read.tab7 strakeref15_Read.bits7 (fun HT_ HW_ => ?_)
             generalize w30.drew = w31 at HO_5 BK329 HB HR333_0 hx333_0 hHeld ⊢
             refine pure_ (i := 0) (N := some 40) (v := ?_) (a' := ?_) #[true,false,false,false,false,false,false,false,false,false,false,false,false] rfl rfl (any_of HT_.out (by kernel_rfl)) (fun _ _ _ h => h) (Or.inl ⟨by rfl,?_⟩) ?_ ?_
             rotate_left
             ·intro w'
              go_simp
              with_reducible rfl
             rotate_left
             ·simp only [Act.put, List.setIfInBounds_toArray, List.set_cons_zero, List.set_cons_succ, i64_w, i32_w]
              rfl
             refine pure_ (i := 1) (N := some 41) (v := ?_) (a' := ?_) #[true,true,false,false,false,false,false,false,false,false,false,false,false] rfl rfl (any_of HT_.out (by kernel_rfl)) (fun _ _ _ h => h) (Or.inl ⟨by rfl,?_⟩) ?_ ?_
             rotate_left
             ·intro w'
              go_simp
              with_reducible rfl
             rotate_left
             ·simp only [Act.put, List.setIfInBounds_toArray, List.set_cons_zero, List.set_cons_succ, i64_w, i32_w]
              rfl
             refine pure_ (i := 4) (N := some 44) (v := ?_) (a' := ?_) #[true,true,false,false,true,false,false,false,false,false,false,false,false] rfl rfl (any_of HT_.out (by kernel_rfl)) (fun _ _ _ h => h) (Or.inl ⟨by rfl,?_⟩) ?_ ?_
             rotate_left
             ·intro w'
              go_simp
              with_reducible rfl
             rotate_left
             ·simp only [Act.put, List.setIfInBounds_toArray, List.set_cons_zero, List.set_cons_succ, i64_w, i32_w]
              rfl
             refine pure_ (i := 5) (N := some 45) (v := ?_) (a' := ?_) #[true,true,false,false,true,true,false,false,false,false,false,false,false] rfl rfl (any_of HT_.out (by kernel_rfl)) (fun _ _ _ h => h) (Or.inl ⟨by rfl,?_⟩) ?_ ?_
             rotate_left
             ·intro w'
              go_simp
              with_reducible rfl
             rotate_left
             ·simp only [Act.put, List.setIfInBounds_toArray, List.set_cons_zero, List.set_cons_succ, i64_w, i32_w]
              rfl
             refine pure_ (i := 6) (N := some 46) (v := ?_) (a' := ?_) #[true,true,false,false,true,true,true,false,false,false,false,false,false] rfl rfl (any_of HT_.out (by kernel_rfl)) (fun _ _ _ h => h) (Or.inl ⟨by rfl,?_⟩) ?_ ?_
             rotate_left
             ·intro w'
              go_simp
              with_reducible rfl
             rotate_left
             ·simp only [Act.put, List.setIfInBounds_toArray, List.set_cons_zero, List.set_cons_succ, i64_w, i32_w]
              rfl
             refine take_ (i := 2) (N := some 42) (v := ?_) (a' := ?_) #[true,true,true,false,true,true,true,false,false,false,false,false,false] rfl rfl (take_ofW HT_.out HW_.out (by kernel_rfl)) (fun _ _ _ h => h) (Or.inl ⟨by rfl,?_⟩) hHeld ?_ ?_
             rotate_left
             ·rintro w' ⟨s0, s1, s2, s3⟩
              go_simp
              with_reducible rfl
             rotate_left
             ·simp only [Act.put, List.setIfInBounds_toArray, List.set_cons_zero, List.set_cons_succ, i64_w, i32_w]
              rfl
             refine take_ (i := 7) (N := some 47) (v := ?_) (a' := ?_) #[true,true,true,false,true,true,true,true,false,false,false,false,false] rfl rfl (take_ofW HT_.out HW_.out (by kernel_rfl)) (fun _ _ _ h => h) (Or.inl ⟨by rfl,?_⟩) hHeld ?_ ?_
             rotate_left
             ·rintro w' ⟨s0, s1, s2, s3⟩
              go_simp
              with_reducible rfl
             rotate_left
             ·simp only [Act.put, List.setIfInBounds_toArray, List.set_cons_zero, List.set_cons_succ, i64_w, i32_w]
              rfl
             refine one_ (i := 3) (N := some 43) #[true,true,true,true,true,true,true,true,false,false,false,false,false] rfl rfl (one_of HT_.out (by kernel_rfl)) (by decide) (fun K hK => ?_)
             refine Kd.R_lit_step (Kd.int .u8) _ 5 ?hg (N := 43) ?hd (xs := ([] : List Int)) (inner := []) (ok := fun _ => True) (okp := fun _ => True) ?hr ?hp (fun _ hk => hk) trivial (Below.refl _ _) (Nat.le_refl _) (by simp) ?_;(case hd => rfl);(case hg => rfl);(case hr => first|(go_simp;done)|(go_simp;rfl));(case hp => exact (Reps.none _ _))
             intro v331 w32 ho33 hb hg_ hnew_
             clear hg_ hnew_
             (first | rw [← Ny330.out] at ho33 | (simp only [Int.reduceToNat] at ho33; rw [← Ny330.out] at ho33))
             have n0_ := Aside0.mk (Kd.S_elder' (by (with_reducible repeat (first|apply Kd.S_alloc|apply Kd.S_drewN|apply Kd.S_drew));exact HO_5.out) (Kd.R_base ho33) hb)
             have n1_ := Aside0.mk (Kd.R_lower ho33 (below_size (by repeat (first|(with_reducible first|exact HB.out|apply below_alloc|apply pw_below_drewN|apply below_drew1|refine below_set ?_ GE329.out)|exact HB.out))))
             have n2_ := Aside0.mk (blk_below (g := gb329) (o := .cells #[.int .i64 t325,.int .i64 t326,.int .i64 t327] 40 (0,0)) (by (with_reducible repeat (first|refine blk_drewN ?_ _|refine blk_drew ?_|refine blk_alloc ?_ _));exact BK329.out) hb)
             have n3_ := Aside0.mk (below_step (by repeat (first|(with_reducible first|exact HB.out|apply below_alloc|apply pw_below_drewN|apply below_drew1|refine below_set ?_ GE329.out)|exact HB.out)) hb)
             clear HO_5
             clear BK329
             clear HB
             have HO_5 := n0_
             have HO332 := n1_
             have BK329 := n2_
             have HB := n3_
             clear n0_ n1_ n2_ n3_
             clear hb ho33
             refine hK.out _ _ ⟨(blk_cell BK329.out 0).trans rfl,(blk_cell BK329.out 1).trans rfl,(blk_cell BK329.out 2).trans rfl,((HB.out.cell (World.block_lt_of_cell? w _ hw333_0)).trans hw333_0)⟩ (fun hHeld => ?_)
             clear hK K
             refine norm_ (a' := ?_) ?_ ?_
             rotate_left
             ·show Act.put _ (some 43) _ = _
              simp only [Act.put, List.setIfInBounds_toArray, List.set_cons_zero, List.set_cons_succ, i64_w, i32_w]
              rfl
             refine one_ (i := 8) (N := some 48) #[true,true,true,true,true,true,true,true,true,false,false,false,false] rfl rfl (one_of HT_.out (by kernel_rfl)) (by decide) (fun K hK => ?_)
             refine Kd.R_append_rows_step (Kd.int .u8) (w0 := w) w.heap.size (by rfl) (.tmp 43) (.tmp 47) 36 5 (.int .u8 0) 1 rfl Try.underlying36 info5 rfl (by decide) (by omega) v331 y330 (rd_L2 l0 x6_1) _ _ _ (fun _ => True) (fun _ => False) rfl rfl ?aO ?aR (fun _ _ h => h) (fun _ h => h.elim) ?aF ?aB ?aS ?aL ?_
             (case aR => repeat (first|exact (Kd.C_below HR333_0.out HB.out)|(with_reducible refine Kd.C_alloc ?_ _)|(with_reducible refine Kd.C_drewN ?_ _)|(with_reducible refine Kd.C_drew ?_)))
             (case aB => exact (by repeat (first|(with_reducible first|exact HB.out|apply below_alloc|apply pw_below_drewN|apply below_drew1|refine below_set ?_ GE329.out)|exact HB.out)))
             (case aF => exact (fun _ _ => trivial))
             (case aO => exact (by (with_reducible repeat (first|apply Kd.R_alloc|apply Kd.R_drewN|apply Kd.R_drew));exact HO332.out))
             (case aS => exact (below_size (by repeat (first|(with_reducible first|exact HB.out|apply below_alloc|apply pw_below_drewN|apply below_drew1|refine below_set ?_ GE329.out)|exact HB.out))))
             (case aL => have := LMc20.out; omega)
             intro v335 w34 ho hb hg hat
             rw [← Ny334.out] at ho
             have n0_ := Aside0.mk (Kd.S_after (ok := (fun _ => True)) (by (with_reducible repeat (first|apply Kd.S_alloc|apply Kd.S_drewN|apply Kd.S_drew));exact HO_5.out) hg hat)
             have n1_ := Aside0.mk (blk_grown (g := gb329) (o := .cells #[.int .i64 t325,.int .i64 t326,.int .i64 t327] 40 (0,0)) (by (with_reducible repeat (first|refine blk_drewN ?_ _|refine blk_drew ?_|refine blk_alloc ?_ _));exact BK329.out) hg (Kd.R_ne HO332.out BK329.out (by decide)))
             have n2_ := Aside0.mk (hb)
             have n3_ := Aside0.mk (ho)
             clear HO_5
             clear BK329
             clear HB
             clear HO332
             have HO_5 := n0_
             have BK329 := n1_
             have HB := n2_
             have HO336 := n3_
             clear n0_ n1_ n2_ n3_
             clear ho hb hg hat
             obtain ⟨Ao35, co35, eo35⟩ := Kd.R_slice HO336.out
             (first|subst eo35|(injection eo35 with f1_ f2_ f3_;have f4_ := f1_.symm;have f5_ := f3_.symm;clear f1_ f2_ f3_;subst f4_;subst f5_))
             refine hK.out _ _ ⟨(blk_cell BK329.out 0).trans rfl,(blk_cell BK329.out 1).trans rfl,(blk_cell BK329.out 2).trans rfl,((HB.out.cell (World.block_lt_of_cell? w _ hw333_0)).trans hw333_0)⟩ (fun hHeld => ?_)
             clear hK K
             refine norm_ (a' := ?_) ?_ ?_
             rotate_left
             ·show Act.put _ (some 48) _ = _
              simp only [Act.put, List.setIfInBounds_toArray, List.set_cons_zero, List.set_cons_succ, i64_w, i32_w]
              rfl
             refine pure_ (i := 9) (N := some 49) (v := ?_) (a' := ?_) #[true,true,true,true,true,true,true,true,true,true,false,false,false] rfl rfl (any_of HT_.out (by kernel_rfl)) (fun _ _ _ h => h) (Or.inl ⟨by rfl,?_⟩) ?_ ?_
             rotate_left
             ·intro w'
              go_simp
              with_reducible rfl
             rotate_left
             ·simp only [Act.put, List.setIfInBounds_toArray, List.set_cons_zero, List.set_cons_succ, i64_w, i32_w]
              rfl
             refine one_ (i := 10) (N := some 50) #[true,true,true,true,true,true,true,true,true,true,true,false,false] rfl rfl (one_of HT_.out (by kernel_rfl)) (by decide) (fun K hK => ?_)
             refine value_ (w1 := ?_) (v := ?_) (by rfl) rfl ?_ ?_
             rotate_left 2
             ·go_simp
              constructor
              ·rfl
              ·rfl
             refine hK.out _ _ ⟨(blk_cell (blk_alloc BK329.out _) 0).trans rfl,(blk_cell (blk_alloc BK329.out _) 1).trans rfl,(blk_cell (blk_alloc BK329.out _) 2).trans rfl,(World.cell?_alloc_lt _ _ _ (World.block_lt_of_cell? _ _ (((HB.out.cell (World.block_lt_of_cell? w _ hw333_0)).trans hw333_0)))).trans (((HB.out.cell (World.block_lt_of_cell? w _ hw333_0)).trans hw333_0))⟩ (fun hHeld => ?_)
             clear hK K
             refine norm_ (a' := ?_) ?_ ?_
             rotate_left
             ·show Act.put _ (some 50) _ = _
              simp only [Act.put, List.setIfInBounds_toArray, List.set_cons_zero, List.set_cons_succ, i64_w, i32_w]
              rfl
             refine one_ (i := 11) (N := some 51) #[true,true,true,true,true,true,true,true,true,true,true,true,false] rfl rfl (one_of HT_.out (by kernel_rfl)) (by decide) (fun K hK => ?_)
             refine Kd.S_append_step k42 (w0 := w) w.heap.size (by rfl) (.tmp 40) (.tmp 50) 34 42 (.agg #[(.int .i64 0),(.int .i64 0),(.int .i64 0),(.int .i64 0),(.slice none 0 0)]) 56 rfl Try.underlying34 info42 rfl (by decide) (by omega) u5 x5_1 (⟨x6_1,(⟨t325,t326,t327⟩ : S40),y334⟩ : S42) [.int .i64 x6_1,.int .i64 t325,.int .i64 t326,.int .i64 t327,.slice Ao35 y334.length co35] (fun _ => True) (fun k_ => some k_ = (.slice Ao35 y334.length co35 : Value).ownBlock) rfl rfl ?aP (fun k_ hk_ => ((Kd.R_mono (ok' := fun k_ => ((fun _ => True)) k_ ∧ some k_ ≠ (u5 : Value).ownBlock) (Kd.R_apart' (HO336.out) (Kd.S_typed HO_5.out) (by decide)) (fun k_ hk => ⟨trivial,hk.2⟩))).1 k_ hk_.symm) ?aF ?aO ?aB ?aS ?aL ?_
             (case aP => exact k42_mkM _ _ _ (⟨x6_1,(⟨t325,t326,t327⟩ : S40),y334⟩ : S42) (Kd.R_mono (Kd.R_tight rfl (Kd.R_mono (ok' := fun k_ => ((fun _ => True)) k_ ∧ some k_ ≠ (u5 : Value).ownBlock) (Kd.R_apart' (HO336.out) (Kd.S_typed HO_5.out) (by decide)) (fun k_ hk => ⟨trivial,hk.2⟩))) (fun _ h_ => h_)))
             (case aB => exact (by repeat (first|(with_reducible first|exact HB.out|apply below_alloc|apply pw_below_drewN|apply below_drew1|refine below_set ?_ GE329.out)|exact HB.out)))
             (case aF => exact (fun _ _ => trivial))
             (case aO => exact (by (with_reducible repeat (first|apply Kd.S_alloc|apply Kd.S_drewN|apply Kd.S_drew));exact Kd.S_mono HO_5.out (fun k_ hk => ⟨trivial,fun e_ => hk.2 e_⟩)))
             (case aS => exact (below_size (by repeat (first|(with_reducible first|exact HB.out|apply below_alloc|apply pw_below_drewN|apply below_drew1|refine below_set ?_ GE329.out)|exact HB.out))))
             (case aL => have := LMc21.out; omega)
             intro v338 w36 ho hb hg hat
             rw [← Ny337.out] at ho
             have n0_ := Aside0.mk (blk_grown (g := gb329) (o := .cells #[.int .i64 t325,.int .i64 t326,.int .i64 t327] 40 (0,0)) (by (with_reducible repeat (first|refine blk_drewN ?_ _|refine blk_drew ?_|refine blk_alloc ?_ _));exact BK329.out) hg (Kd.S_ne HO_5.out BK329.out (by decide)))
             have n1_ := Aside0.mk (hb)
             have n2_ := Aside0.mk (ho)
             clear BK329
             clear HB
             clear HO_5
             clear HO336
             have BK329 := n0_
             have HB := n1_
             have HO339 := n2_
             clear n0_ n1_ n2_
             clear ho hb hg hat
             refine hK.out _ _ ⟨(blk_cell BK329.out 0).trans rfl,(blk_cell BK329.out 1).trans rfl,(blk_cell BK329.out 2).trans rfl,((HB.out.cell (World.block_lt_of_cell? w _ hw333_0)).trans hw333_0)⟩ (fun hHeld => ?_)
             clear hK K
             refine norm_ (a' := ?_) ?_ ?_
             rotate_left
             ·show Act.put _ (some 51) _ = _
              simp only [Act.put, List.setIfInBounds_toArray, List.set_cons_zero, List.set_cons_succ, i64_w, i32_w]
              rfl
             refine pure_ (i := 12) (N := some 5) (v := ?_) (a' := ?_) #[true,true,true,true,true,true,true,true,true,true,true,true,true] rfl rfl (any_of HT_.out (by kernel_rfl)) (fun _ _ _ h => h) (Or.inl ⟨by rfl,?_⟩) ?_ ?_
             rotate_left
             ·intro w'
              go_simp
              with_reducible rfl
             rotate_left
             ·simp only [Act.put, List.setIfInBounds_toArray, List.set_cons_zero, List.set_cons_succ, i64_w, i32_w]
              rfl
             refine done_ (done_of HT_.out (by kernel_rfl)) ?_
             try go_wp2
             go_roundg kj2
             case measure => have := HK1.out; have := HJ2.out; omega
             case rel => exact ⟨(y337),(wrap64 (x6_1 + 1)),(by first|rfl|(simp;done)|(simp [*];done)),H',⟨by have := HK1.out;have := HJ2.out;omega⟩,⟨by (with_reducible repeat (first|apply Kd.S_alloc|apply Kd.S_drewN|apply Kd.S_drew));exact HO339.out⟩,⟨by repeat (first|(with_reducible first|exact HB.out|apply below_alloc|apply pw_below_drewN|apply below_drew1|refine below_set ?_ GE329.out)|exact HB.out)⟩⟩
            ·rw [if_neg c21] at H
             exact absurd H (by simp)
           ·rw [if_neg c20] at H
            exact absurd H (by simp)
         ·rw [if_neg c10] at H
          have c10b0 : (t328 == 0) = false := beq_eq_false_iff_ne.mpr c10
          have c10b1 : (t328 != 0) = true := bne_iff_ne.mpr c10
          have H' := Aside0.mk H
          clear H
          try go_wp2
          (try (rw [drewN_self wc];generalize hq_ : World.drewN wc _ = wc;have n0_ : Aside0 (Kd.S k42 42 wc w.heap.size (fun _ => True) u5 x5_1) := ⟨by rw [← hq_];exact (by (with_reducible repeat (first|apply Kd.S_alloc|apply Kd.S_drewN|apply Kd.S_drew));exact HO_5.out)⟩;have n1_ : Aside0 (Below w.heap.size w wc) := ⟨by rw [← hq_];exact (by repeat (first|(with_reducible first|exact HB.out|apply below_alloc|apply pw_below_drewN|apply below_drew1)|exact HB.out))⟩;clear HO_5 HB hq_;have HO_5 := n0_;have HB := n1_;clear n0_ n1_))
          have n0_ := Aside0.mk (Kd.S_drew HO_5.out)
          have n1_ := Aside0.mk (below_drew1 HB.out)
          clear HO_5
          clear HB
          have HO_5 := n0_
          have HB := n1_
          clear n0_ n1_
          have p323 : 0 ≤ (x6_1 : Int) := of_decide_eq_true (by first | (with_reducible assumption) | assumption)
          have q323 : x6_1 < (l1.length : Int) := of_decide_eq_true (by first|(with_reducible assumption)|assumption)
          obtain ⟨ad323, A323_0, c323_0, e323, hx323_0, hl323_0, hi323_0⟩ := at_L2 HR1.out x6_1 p323 q323
          have hw323_0 := hx323_0
          cases e323
          replace hx323_0 := (HB.out.cell (World.block_lt_of_cell? w _ hx323_0)).trans hx323_0
          have HR323_0 := Aside0.mk hi323_0
          have HC323_0 := Aside0.mk hl323_0
          clear hi323_0 hl323_0
          replace p323 := eq_true p323
          replace q323 := eq_true q323
          have p324 : 0 ≤ (x6_1 : Int) := of_decide_eq_true (by first | (with_reducible assumption) | assumption)
          have q324 : x6_1 < (l0.length : Int) := of_decide_eq_true (by first|(with_reducible assumption)|assumption)
          obtain ⟨ad324, A324_0, c324_0, e324, hx324_0, hl324_0, hi324_0⟩ := at_L2 HR0.out x6_1 p324 q324
          have hw324_0 := hx324_0
          cases e324
          replace hx324_0 := (HB.out.cell (World.block_lt_of_cell? w _ hx324_0)).trans hx324_0
          have HR324_0 := Aside0.mk hi324_0
          have HC324_0 := Aside0.mk hl324_0
          clear hi324_0 hl324_0
          replace p324 := eq_true p324
          replace q324 := eq_true q324
          refine start_ (n := 15) (S := fun w' => w'.cell? (ad323.add (x6_1).toNat) = some (.slice A323_0 (rd_L2 l1 x6_1).length c323_0) ∧ w'.cell? (ad324.add (x6_1).toNat) = some (.slice A324_0 (rd_L2 l0 x6_1).length c324_0)) (ds := []) #[false,false,false,false,false,false,false,false,false,false,false,false,false,false,false] (by kernel_rfl) rfl rfl ⟨((HB.out.cell (World.block_lt_of_cell? w _ hw323_0)).trans hw323_0),((HB.out.cell (World.block_lt_of_cell? w _ hw324_0)).trans hw324_0)⟩ (fun hHeld => ?_);refine with_tabW strakeref15_Read.tab5 strakeref15_Read.bits5 (fun HT_ HW_ => ?_)
          generalize wc.drew = w37 at HO_5 HB HR323_0 HR324_0 hx323_0 hx324_0 hHeld ⊢
          refine pure_ (i := 0) (N := some 22) (v := ?_) (a' := ?_) #[true,false,false,false,false,false,false,false,false,false,false,false,false,false,false] rfl rfl (any_of HT_.out (by kernel_rfl)) (fun _ _ _ h => h) (Or.inl ⟨by rfl,?_⟩) ?_ ?_
          rotate_left
          ·intro w'
           go_simp
           with_reducible rfl
          rotate_left
          ·simp only [Act.put, List.setIfInBounds_toArray, List.set_cons_zero, List.set_cons_succ, i64_w, i32_w]
           rfl
          refine pure_ (i := 1) (N := some 23) (v := ?_) (a' := ?_) #[true,true,false,false,false,false,false,false,false,false,false,false,false,false,false] rfl rfl (any_of HT_.out (by kernel_rfl)) (fun _ _ _ h => h) (Or.inl ⟨by rfl,?_⟩) ?_ ?_
          rotate_left
          ·intro w'
           go_simp
           with_reducible rfl
          rotate_left
          ·simp only [Act.put, List.setIfInBounds_toArray, List.set_cons_zero, List.set_cons_succ, i64_w, i32_w]
           rfl
          refine pure_ (i := 2) (N := some 24) (v := ?_) (a' := ?_) #[true,true,true,false,false,false,false,false,false,false,false,false,false,false,false] rfl rfl (any_of HT_.out (by kernel_rfl)) (fun _ _ _ h => h) (Or.inl ⟨by rfl,?_⟩) ?_ ?_
          rotate_left
          ·intro w'
           go_simp
           with_reducible rfl
          rotate_left
          ·simp only [Act.put, List.setIfInBounds_toArray, List.set_cons_zero, List.set_cons_succ, i64_w, i32_w]
           rfl
          refine pure_ (i := 4) (N := some 26) (v := ?_) (a' := ?_) #[true,true,true,false,true,false,false,false,false,false,false,false,false,false,false] rfl rfl (any_of HT_.out (by kernel_rfl)) (fun _ _ _ h => h) (Or.inl ⟨by rfl,?_⟩) ?_ ?_
          rotate_left
          ·intro w'
           go_simp
           with_reducible rfl
          rotate_left
          ·simp only [Act.put, List.setIfInBounds_toArray, List.set_cons_zero, List.set_cons_succ, i64_w, i32_w]
           rfl
          refine pure_ (i := 5) (N := some 27) (v := ?_) (a' := ?_) #[true,true,true,false,true,true,false,false,false,false,false,false,false,false,false] rfl rfl (any_of HT_.out (by kernel_rfl)) (fun _ _ _ h => h) (Or.inl ⟨by rfl,?_⟩) ?_ ?_
          rotate_left
          ·intro w'
           go_simp
           with_reducible rfl
          rotate_left
          ·simp only [Act.put, List.setIfInBounds_toArray, List.set_cons_zero, List.set_cons_succ, i64_w, i32_w]
           rfl
          refine pure_ (i := 6) (N := some 28) (v := ?_) (a' := ?_) #[true,true,true,false,true,true,true,false,false,false,false,false,false,false,false] rfl rfl (any_of HT_.out (by kernel_rfl)) (fun _ _ _ h => h) (Or.inl ⟨by rfl,?_⟩) ?_ ?_
          rotate_left
          ·intro w'
           go_simp
           with_reducible rfl
          rotate_left
          ·simp only [Act.put, List.setIfInBounds_toArray, List.set_cons_zero, List.set_cons_succ, i64_w, i32_w]
           rfl
          refine take_ (i := 3) (N := some 25) (v := ?_) (a' := ?_) #[true,true,true,true,true,true,true,false,false,false,false,false,false,false,false] rfl rfl (take_ofW HT_.out HW_.out (by kernel_rfl)) (fun _ _ _ h => h) (Or.inl ⟨by rfl,?_⟩) hHeld ?_ ?_
          rotate_left
          ·rintro w' ⟨s0, s1⟩
           go_simp
           with_reducible rfl
          rotate_left
          ·simp only [Act.put, List.setIfInBounds_toArray, List.set_cons_zero, List.set_cons_succ, i64_w, i32_w]
           rfl
          refine take_ (i := 7) (N := some 29) (v := ?_) (a' := ?_) #[true,true,true,true,true,true,true,true,false,false,false,false,false,false,false] rfl rfl (take_ofW HT_.out HW_.out (by kernel_rfl)) (fun _ _ _ h => h) (Or.inl ⟨by rfl,?_⟩) hHeld ?_ ?_
          rotate_left
          ·rintro w' ⟨s0, s1⟩
           go_simp
           with_reducible rfl
          rotate_left
          ·simp only [Act.put, List.setIfInBounds_toArray, List.set_cons_zero, List.set_cons_succ, i64_w, i32_w]
           rfl
          refine join_ (σ := Nat) 2 #[true,true,true,true,true,true,true,true,true,true,true,true,true,false,false] (fun s_ => [(30,.tuple #[.agg #[.int .i64 t325,.int .i64 t326,.int .i64 t327],.int .i64 t328]),(7,.pointer (some ⟨s_,0,none⟩)),(21,.tuple #[.agg #[.int .i64 t325,.int .i64 t326,.int .i64 t327],.int .i64 t328]),(31,.agg #[.int .i64 t325,.int .i64 t326,.int .i64 t327]),(32,.int .i64 t328)]) (fun s_ w' => (w'.cell? (ad323.add (x6_1).toNat) = some (.slice A323_0 (rd_L2 l1 x6_1).length c323_0) ∧ w'.cell? (ad324.add (x6_1).toNat) = some (.slice A324_0 (rd_L2 l0 x6_1).length c324_0)) ∧ (Kd.S k42 42 w' w.heap.size (fun _ => True) u5 x5_1) ∧ (w'.heap[s_]? = some (.cells #[.int .i64 0,.int .i64 0,.int .i64 0] 40 (0,0))) ∧ (w.heap.size ≤ s_) ∧ (w.heap.size ≤ s_) ∧ (Below w.heap.size w w')) ?_ ?_
          rotate_left
          ·intro hCont
           refine two_ (i := 8) (j := 12) (Ni := some 30) (Nj := some 7) #[true,true,true,true,true,true,true,true,true,false,false,false,false,false,false] #[true,true,true,true,true,true,true,true,false,false,false,false,true,false,false] rfl rfl rfl rfl (two_of HT_.out (by kernel_rfl)) (by decide) (by decide) (fun K hK => ?_) (fun K hK => ?_)
           ·skip
            refine goes_ Try.func28 (by kernel_rfl) rfl #[.slice A323_0 (rd_L2 l1 x6_1).length c323_0,.slice A324_0 (rd_L2 l0 x6_1).length c324_0] (by rfl) rfl rfl (by (try simp only [List.map_toArray,List.map_cons,List.map_nil]);first|done|rfl|(simp only [List.length_drop,List.length_take];rfl)) ?_
            with_reducible refine (strakeref05_Unpack.calls kj2 _ _ (rd_L2 l1 x6_1) _ _ (rd_L2 l0 x6_1) t325 t326 t327 t328 _ ?side1 ?side2 ?side3 ?side4 A9.out).mono ?_
            (case side1 => repeat (first|exact (Kd.C_below HR323_0.out HB.out)|(with_reducible refine Kd.C_alloc ?_ _)|(with_reducible refine Kd.C_drewN ?_ _)|(with_reducible refine Kd.C_drew ?_)))
            (case side2 => exact HC323_0.out)
            (case side3 => repeat (first|exact (Kd.C_below HR324_0.out HB.out)|(with_reducible refine Kd.C_alloc ?_ _)|(with_reducible refine Kd.C_drewN ?_ _)|(with_reducible refine Kd.C_drew ?_)))
            (case side4 => exact HC324_0.out)
            rintro e w38 ⟨rfl, hb⟩
            refine ⟨_, rfl, ?_⟩
            have n0_ := Aside0.mk (Kd.S_below (by (with_reducible repeat (first|apply Kd.S_alloc|apply Kd.S_drewN|apply Kd.S_drew));exact HO_5.out) hb)
            have n1_ := Aside0.mk (below_step (by repeat (first|(with_reducible first|exact HB.out|apply below_alloc|apply pw_below_drewN|apply below_drew1)|exact HB.out)) hb)
            clear HO_5
            clear HB
            have HO_5 := n0_
            have HB := n1_
            clear n0_ n1_
            (try clear hb)
            (try clear hb2)
            (try clear hk)
            (try clear hi)
            refine hK.out _ _ ⟨((HB.out.cell (World.block_lt_of_cell? w _ hw323_0)).trans hw323_0),((HB.out.cell (World.block_lt_of_cell? w _ hw324_0)).trans hw324_0)⟩ (fun hHeld => ?_)
            clear hK K
            refine norm_ (a' := ?_) ?_ ?_
            rotate_left
            ·show Act.put _ (some 30) _ = _
             simp only [Act.put, List.setIfInBounds_toArray, List.set_cons_zero, List.set_cons_succ, i64_w, i32_w]
             rfl
            refine pure_ (i := 9) (N := some 21) (v := ?_) (a' := ?_) #[true,true,true,true,true,true,true,true,true,true,false,false,false,false,false] rfl rfl (any_of HT_.out (by kernel_rfl)) (fun _ _ _ h => h) (Or.inl ⟨by rfl,?_⟩) ?_ ?_
            rotate_left
            ·intro w'
             go_simp
             with_reducible rfl
            rotate_left
            ·simp only [Act.put, List.setIfInBounds_toArray, List.set_cons_zero, List.set_cons_succ, i64_w, i32_w]
             rfl
            refine pure_ (i := 10) (N := some 31) (v := ?_) (a' := ?_) #[true,true,true,true,true,true,true,true,true,true,true,false,false,false,false] rfl rfl (any_of HT_.out (by kernel_rfl)) (fun _ _ _ h => h) (Or.inl ⟨by rfl,?_⟩) ?_ ?_
            rotate_left
            ·intro w'
             go_simp
             with_reducible rfl
            rotate_left
            ·simp only [Act.put, List.setIfInBounds_toArray, List.set_cons_zero, List.set_cons_succ, i64_w, i32_w]
             rfl
            refine pure_ (i := 11) (N := some 32) (v := ?_) (a' := ?_) #[true,true,true,true,true,true,true,true,true,true,true,true,false,false,false] rfl rfl (any_of HT_.out (by kernel_rfl)) (fun _ _ _ h => h) (Or.inl ⟨by rfl,?_⟩) ?_ ?_
            rotate_left
            ·intro w'
             go_simp
             with_reducible rfl
            rotate_left
            ·simp only [Act.put, List.setIfInBounds_toArray, List.set_cons_zero, List.set_cons_succ, i64_w, i32_w]
             rfl
            refine one_ (i := 12) (N := some 7) #[true,true,true,true,true,true,true,true,true,true,true,true,true,false,false] rfl rfl (one_of HT_.out (by kernel_rfl)) (by decide) (fun K hK => ?_)
            refine box_step ?hg (N := 7) ?hd (cs := #[.int .i64 0,.int .i64 0,.int .i64 0]) (t := 40) ?hr ?_;(case hd => rfl);(case hg => rfl);(case hr => first|(go_simp;done)|(go_simp;rfl))
            intro gb329 hg w39 hbox hb
            have n0_ := Aside0.mk (Kd.S_below (by (with_reducible repeat (first|apply Kd.S_alloc|apply Kd.S_drewN|apply Kd.S_drew));exact HO_5.out) hb)
            have n1_ := Aside0.mk (below_step (by repeat (first|(with_reducible first|exact HB.out|apply below_alloc|apply pw_below_drewN|apply below_drew1)|exact HB.out)) hb)
            have n2_ := Aside0.mk (hbox)
            have n3_ := Aside0.mk ((by rw [hg];exact (below_size (by repeat (first|(with_reducible first|exact HB.out|apply below_alloc|apply pw_below_drewN|apply below_drew1)|exact HB.out))) : w.heap.size ≤ gb329))
            have n4_ := Aside0.mk ((by rw [hg];exact (below_size (by repeat (first|(with_reducible first|exact HB.out|apply below_alloc|apply pw_below_drewN|apply below_drew1)|exact HB.out))) : w.heap.size ≤ gb329))
            clear HO_5
            clear HB
            have HO_5 := n0_
            have HB := n1_
            have BK329 := n2_
            have GW329 := n3_
            have GE329 := n4_
            clear n0_ n1_ n2_ n3_ n4_
            clear hb hbox hg
            refine hK.out _ _ ⟨((HB.out.cell (World.block_lt_of_cell? w _ hw323_0)).trans hw323_0),((HB.out.cell (World.block_lt_of_cell? w _ hw324_0)).trans hw324_0)⟩ (fun hHeld => ?_)
            clear hK K
            refine norm_ (a' := ?_) ?_ ?_
            rotate_left
            ·show Act.put _ (some 7) _ = _
             simp only [Act.put, List.setIfInBounds_toArray, List.set_cons_zero, List.set_cons_succ, i64_w, i32_w]
             rfl
            exact norm_ (by simp only [putAll,Act.put,List.setIfInBounds_toArray,List.set_cons_zero,List.set_cons_succ]) (hCont (gb329) _ ⟨hHeld,(by (with_reducible repeat (first|apply Kd.S_alloc|apply Kd.S_drewN|apply Kd.S_drew));exact HO_5.out),(by (with_reducible repeat (first|refine blk_drewN ?_ _|refine blk_drew ?_|refine blk_alloc ?_ _));exact BK329.out),GW329.out,GE329.out,(by repeat (first|(with_reducible first|exact HB.out|apply below_alloc|apply pw_below_drewN|apply below_drew1|refine below_set ?_ GE329.out)|exact HB.out))⟩)
           ·skip
            refine box_step ?hg (N := 7) ?hd (cs := #[.int .i64 0,.int .i64 0,.int .i64 0]) (t := 40) ?hr ?_;(case hd => rfl);(case hg => rfl);(case hr => first|(go_simp;done)|(go_simp;rfl))
            intro gb329 hg w38 hbox hb
            have n0_ := Aside0.mk (Kd.S_below (by (with_reducible repeat (first|apply Kd.S_alloc|apply Kd.S_drewN|apply Kd.S_drew));exact HO_5.out) hb)
            have n1_ := Aside0.mk (below_step (by repeat (first|(with_reducible first|exact HB.out|apply below_alloc|apply pw_below_drewN|apply below_drew1)|exact HB.out)) hb)
            have n2_ := Aside0.mk (hbox)
            have n3_ := Aside0.mk ((by rw [hg];exact (below_size (by repeat (first|(with_reducible first|exact HB.out|apply below_alloc|apply pw_below_drewN|apply below_drew1)|exact HB.out))) : w.heap.size ≤ gb329))
            have n4_ := Aside0.mk ((by rw [hg];exact (below_size (by repeat (first|(with_reducible first|exact HB.out|apply below_alloc|apply pw_below_drewN|apply below_drew1)|exact HB.out))) : w.heap.size ≤ gb329))
            clear HO_5
            clear HB
            have HO_5 := n0_
            have HB := n1_
            have BK329 := n2_
            have GW329 := n3_
            have GE329 := n4_
            clear n0_ n1_ n2_ n3_ n4_
            clear hb hbox hg
            refine hK.out _ _ ⟨((HB.out.cell (World.block_lt_of_cell? w _ hw323_0)).trans hw323_0),((HB.out.cell (World.block_lt_of_cell? w _ hw324_0)).trans hw324_0)⟩ (fun hHeld => ?_)
            clear hK K
            refine norm_ (a' := ?_) ?_ ?_
            rotate_left
            ·show Act.put _ (some 7) _ = _
             simp only [Act.put, List.setIfInBounds_toArray, List.set_cons_zero, List.set_cons_succ, i64_w, i32_w]
             rfl
            refine one_ (i := 8) (N := some 30) #[true,true,true,true,true,true,true,true,true,false,false,false,true,false,false] rfl rfl (one_of HT_.out (by kernel_rfl)) (by decide) (fun K hK => ?_)
            refine goes_ Try.func28 (by kernel_rfl) rfl #[.slice A323_0 (rd_L2 l1 x6_1).length c323_0,.slice A324_0 (rd_L2 l0 x6_1).length c324_0] (by rfl) rfl rfl (by (try simp only [List.map_toArray,List.map_cons,List.map_nil]);first|done|rfl|(simp only [List.length_drop,List.length_take];rfl)) ?_
            with_reducible refine (strakeref05_Unpack.calls kj2 _ _ (rd_L2 l1 x6_1) _ _ (rd_L2 l0 x6_1) t325 t326 t327 t328 _ ?side1 ?side2 ?side3 ?side4 A9.out).mono ?_
            (case side1 => repeat (first|exact (Kd.C_below HR323_0.out HB.out)|(with_reducible refine Kd.C_alloc ?_ _)|(with_reducible refine Kd.C_drewN ?_ _)|(with_reducible refine Kd.C_drew ?_)))
            (case side2 => exact HC323_0.out)
            (case side3 => repeat (first|exact (Kd.C_below HR324_0.out HB.out)|(with_reducible refine Kd.C_alloc ?_ _)|(with_reducible refine Kd.C_drewN ?_ _)|(with_reducible refine Kd.C_drew ?_)))
            (case side4 => exact HC324_0.out)
            rintro e w39 ⟨rfl, hb⟩
            refine ⟨_, rfl, ?_⟩
            have n0_ := Aside0.mk (Kd.S_below (by (with_reducible repeat (first|apply Kd.S_alloc|apply Kd.S_drewN|apply Kd.S_drew));exact HO_5.out) hb)
            have n1_ := Aside0.mk (blk_below (g := gb329) (o := .cells #[.int .i64 0,.int .i64 0,.int .i64 0] 40 (0,0)) (by (with_reducible repeat (first|refine blk_drewN ?_ _|refine blk_drew ?_|refine blk_alloc ?_ _));exact BK329.out) hb)
            have n2_ := Aside0.mk (below_step (by repeat (first|(with_reducible first|exact HB.out|apply below_alloc|apply pw_below_drewN|apply below_drew1|refine below_set ?_ GE329.out)|exact HB.out)) hb)
            clear HO_5
            clear BK329
            clear HB
            have HO_5 := n0_
            have BK329 := n1_
            have HB := n2_
            clear n0_ n1_ n2_
            (try clear hb)
            (try clear hb2)
            (try clear hk)
            (try clear hi)
            refine hK.out _ _ ⟨((HB.out.cell (World.block_lt_of_cell? w _ hw323_0)).trans hw323_0),((HB.out.cell (World.block_lt_of_cell? w _ hw324_0)).trans hw324_0)⟩ (fun hHeld => ?_)
            clear hK K
            refine norm_ (a' := ?_) ?_ ?_
            rotate_left
            ·show Act.put _ (some 30) _ = _
             simp only [Act.put, List.setIfInBounds_toArray, List.set_cons_zero, List.set_cons_succ, i64_w, i32_w]
             rfl
            refine pure_ (i := 9) (N := some 21) (v := ?_) (a' := ?_) #[true,true,true,true,true,true,true,true,true,true,false,false,true,false,false] rfl rfl (any_of HT_.out (by kernel_rfl)) (fun _ _ _ h => h) (Or.inl ⟨by rfl,?_⟩) ?_ ?_
            rotate_left
            ·intro w'
             go_simp
             with_reducible rfl
            rotate_left
            ·simp only [Act.put, List.setIfInBounds_toArray, List.set_cons_zero, List.set_cons_succ, i64_w, i32_w]
             rfl
            refine pure_ (i := 10) (N := some 31) (v := ?_) (a' := ?_) #[true,true,true,true,true,true,true,true,true,true,true,false,true,false,false] rfl rfl (any_of HT_.out (by kernel_rfl)) (fun _ _ _ h => h) (Or.inl ⟨by rfl,?_⟩) ?_ ?_
            rotate_left
            ·intro w'
             go_simp
             with_reducible rfl
            rotate_left
            ·simp only [Act.put, List.setIfInBounds_toArray, List.set_cons_zero, List.set_cons_succ, i64_w, i32_w]
             rfl
            refine pure_ (i := 11) (N := some 32) (v := ?_) (a' := ?_) #[true,true,true,true,true,true,true,true,true,true,true,true,true,false,false] rfl rfl (any_of HT_.out (by kernel_rfl)) (fun _ _ _ h => h) (Or.inl ⟨by rfl,?_⟩) ?_ ?_
            rotate_left
            ·intro w'
             go_simp
             with_reducible rfl
            rotate_left
            ·simp only [Act.put, List.setIfInBounds_toArray, List.set_cons_zero, List.set_cons_succ, i64_w, i32_w]
             rfl
            exact norm_ (by simp only [putAll,Act.put,List.setIfInBounds_toArray,List.set_cons_zero,List.set_cons_succ]) (hCont (gb329) _ ⟨hHeld,(by (with_reducible repeat (first|apply Kd.S_alloc|apply Kd.S_drewN|apply Kd.S_drew));exact HO_5.out),(by (with_reducible repeat (first|refine blk_drewN ?_ _|refine blk_drew ?_|refine blk_alloc ?_ _));exact BK329.out),GW329.out,GE329.out,(by repeat (first|(with_reducible first|exact HB.out|apply below_alloc|apply pw_below_drewN|apply below_drew1|refine below_set ?_ GE329.out)|exact HB.out))⟩)
          rintro gb329 w40 ⟨hS_, h0_, h1_, h2_, h3_, h4_⟩
          have n0_ : Aside0 (Kd.S k42 42 w40 w.heap.size (fun _ => True) u5 x5_1) := ⟨h0_⟩
          have n1_ : Aside0 (w40.heap[gb329]? = some (.cells #[.int .i64 0,.int .i64 0,.int .i64 0] 40 (0,0))) := ⟨h1_⟩
          have n2_ : Aside0 (w.heap.size ≤ gb329) := ⟨h2_⟩
          have n3_ : Aside0 (w.heap.size ≤ gb329) := ⟨h3_⟩
          have n4_ : Aside0 (Below w.heap.size w w40) := ⟨h4_⟩
          clear HO_5
          clear HB
          clear h0_ h1_ h2_ h3_ h4_
          have HO_5 := n0_
          have BK329 := n1_
          have GW329 := n2_
          have GE329 := n3_
          have HB := n4_
          clear n0_ n1_ n2_ n3_ n4_
          have hHeld : w40.cell? (ad323.add (x6_1).toNat) = some (.slice A323_0 (rd_L2 l1 x6_1).length c323_0) ∧ w40.cell? (ad324.add (x6_1).toNat) = some (.slice A324_0 (rd_L2 l0 x6_1).length c324_0) := hS_
          refine norm_ (a' := ?_) ?_ ?_
          rotate_left
          ·simp only [putAll, Act.put, List.setIfInBounds_toArray, List.set_cons_zero, List.set_cons_succ]
           rfl
          refine one_ (i := 13) (N := none) #[true,true,true,true,true,true,true,true,true,true,true,true,true,true,false] rfl rfl (one_of HT_.out (by kernel_rfl)) (by decide) (fun K hK => ?_)
          have hs41 : w40.cell? ⟨gb329, 0, none⟩ = some (.int .i64 0) := (blk_cell BK329.out 0).trans rfl
          have hfs41 := blk_frozen BK329.out 0
          have hs42 : w40.cell? ⟨gb329, 1, none⟩ = some (.int .i64 0) := (blk_cell BK329.out 1).trans rfl
          have hfs42 := blk_frozen BK329.out 1
          have hs43 : w40.cell? ⟨gb329, 2, none⟩ = some (.int .i64 0) := (blk_cell BK329.out 2).trans rfl
          have hfs43 := blk_frozen BK329.out 2
          refine skip_ (w1 := ?_) (by rfl) rfl ?_ ?_
          rotate_left
          ·go_simp
           rfl
          refine hK.out _ _ ⟨((cell_far (p := ⟨gb329,_,none⟩) (by first|exact Nat.ne_of_lt (Nat.lt_of_lt_of_le (by have := World.block_lt_of_cell? _ _ hw323_0;first|rwa [add_block] at this|exact this) GW329.out)|(rw [add_block];exact Nat.ne_of_lt (Nat.lt_of_lt_of_le (by have := World.block_lt_of_cell? _ _ hw323_0;first|rwa [add_block] at this|exact this) GW329.out))|(show (Addr.add _ _).block ≠ _;rw [add_block];exact Nat.ne_of_lt (Nat.lt_of_lt_of_le (by have := World.block_lt_of_cell? _ _ hw323_0;first|rwa [add_block] at this|exact this) GW329.out))|(dsimp only;exact Nat.ne_of_lt (Nat.lt_of_lt_of_le (by have := World.block_lt_of_cell? _ _ hw323_0;first|rwa [add_block] at this|exact this) GW329.out))) _).trans (((cell_far (p := ⟨gb329,_,none⟩) (by first|exact Nat.ne_of_lt (Nat.lt_of_lt_of_le (by have := World.block_lt_of_cell? _ _ hw323_0;first|rwa [add_block] at this|exact this) GW329.out)|(rw [add_block];exact Nat.ne_of_lt (Nat.lt_of_lt_of_le (by have := World.block_lt_of_cell? _ _ hw323_0;first|rwa [add_block] at this|exact this) GW329.out))|(show (Addr.add _ _).block ≠ _;rw [add_block];exact Nat.ne_of_lt (Nat.lt_of_lt_of_le (by have := World.block_lt_of_cell? _ _ hw323_0;first|rwa [add_block] at this|exact this) GW329.out))|(dsimp only;exact Nat.ne_of_lt (Nat.lt_of_lt_of_le (by have := World.block_lt_of_cell? _ _ hw323_0;first|rwa [add_block] at this|exact this) GW329.out))) _).trans (((cell_far (p := ⟨gb329,_,none⟩) (by first|exact Nat.ne_of_lt (Nat.lt_of_lt_of_le (by have := World.block_lt_of_cell? _ _ hw323_0;first|rwa [add_block] at this|exact this) GW329.out)|(rw [add_block];exact Nat.ne_of_lt (Nat.lt_of_lt_of_le (by have := World.block_lt_of_cell? _ _ hw323_0;first|rwa [add_block] at this|exact this) GW329.out))|(show (Addr.add _ _).block ≠ _;rw [add_block];exact Nat.ne_of_lt (Nat.lt_of_lt_of_le (by have := World.block_lt_of_cell? _ _ hw323_0;first|rwa [add_block] at this|exact this) GW329.out))|(dsimp only;exact Nat.ne_of_lt (Nat.lt_of_lt_of_le (by have := World.block_lt_of_cell? _ _ hw323_0;first|rwa [add_block] at this|exact this) GW329.out))) _).trans (hHeld.1)))))),((cell_far (p := ⟨gb329,_,none⟩) (by first|exact Nat.ne_of_lt (Nat.lt_of_lt_of_le (by have := World.block_lt_of_cell? _ _ hw324_0;first|rwa [add_block] at this|exact this) GW329.out)|(rw [add_block];exact Nat.ne_of_lt (Nat.lt_of_lt_of_le (by have := World.block_lt_of_cell? _ _ hw324_0;first|rwa [add_block] at this|exact this) GW329.out))|(show (Addr.add _ _).block ≠ _;rw [add_block];exact Nat.ne_of_lt (Nat.lt_of_lt_of_le (by have := World.block_lt_of_cell? _ _ hw324_0;first|rwa [add_block] at this|exact this) GW329.out))|(dsimp only;exact Nat.ne_of_lt (Nat.lt_of_lt_of_le (by have := World.block_lt_of_cell? _ _ hw324_0;first|rwa [add_block] at this|exact this) GW329.out))) _).trans (((cell_far (p := ⟨gb329,_,none⟩) (by first|exact Nat.ne_of_lt (Nat.lt_of_lt_of_le (by have := World.block_lt_of_cell? _ _ hw324_0;first|rwa [add_block] at this|exact this) GW329.out)|(rw [add_block];exact Nat.ne_of_lt (Nat.lt_of_lt_of_le (by have := World.block_lt_of_cell? _ _ hw324_0;first|rwa [add_block] at this|exact this) GW329.out))|(show (Addr.add _ _).block ≠ _;rw [add_block];exact Nat.ne_of_lt (Nat.lt_of_lt_of_le (by have := World.block_lt_of_cell? _ _ hw324_0;first|rwa [add_block] at this|exact this) GW329.out))|(dsimp only;exact Nat.ne_of_lt (Nat.lt_of_lt_of_le (by have := World.block_lt_of_cell? _ _ hw324_0;first|rwa [add_block] at this|exact this) GW329.out))) _).trans (((cell_far (p := ⟨gb329,_,none⟩) (by first|exact Nat.ne_of_lt (Nat.lt_of_lt_of_le (by have := World.block_lt_of_cell? _ _ hw324_0;first|rwa [add_block] at this|exact this) GW329.out)|(rw [add_block];exact Nat.ne_of_lt (Nat.lt_of_lt_of_le (by have := World.block_lt_of_cell? _ _ hw324_0;first|rwa [add_block] at this|exact this) GW329.out))|(show (Addr.add _ _).block ≠ _;rw [add_block];exact Nat.ne_of_lt (Nat.lt_of_lt_of_le (by have := World.block_lt_of_cell? _ _ hw324_0;first|rwa [add_block] at this|exact this) GW329.out))|(dsimp only;exact Nat.ne_of_lt (Nat.lt_of_lt_of_le (by have := World.block_lt_of_cell? _ _ hw324_0;first|rwa [add_block] at this|exact this) GW329.out))) _).trans (hHeld.2))))))⟩ (fun hHeld => ?_)
          clear hK K
          refine pure_ (i := 14) (N := some 8) (v := ?_) (a' := ?_) #[true,true,true,true,true,true,true,true,true,true,true,true,true,true,true] rfl rfl (any_of HT_.out (by kernel_rfl)) (fun _ _ _ h => h) (Or.inl ⟨by rfl,?_⟩) ?_ ?_
          rotate_left
          ·intro w'
           go_simp
           with_reducible rfl
          rotate_left
          ·simp only [Act.put, List.setIfInBounds_toArray, List.set_cons_zero, List.set_cons_succ, i64_w, i32_w]
           rfl
          refine done_ (done_of HT_.out (by kernel_rfl)) ?_
          try go_wp2
          go_roundg kj2
          case measure => have := HK1.out; have := HJ2.out; omega
          case rel => exact ⟨(x5_1),(wrap64 (x6_1 + 1)),(by first|rfl|(simp;done)|(simp [*];done)),H',⟨by have := HK1.out;have := HJ2.out;omega⟩,⟨by (with_reducible repeat (first|apply Kd.S_alloc|apply Kd.S_drewN|apply Kd.S_drew));exact Kd.S_mono (Kd.S_far (p := ⟨gb329,2,none⟩) (Kd.S_far (p := ⟨gb329,1,none⟩) (Kd.S_far (p := ⟨gb329,0,none⟩) (Kd.S_types HO_5.out BK329.out (by decide)) (fun _ hk => hk.2) (.int .i64 t325)) (fun _ hk => hk.2) (.int .i64 t326)) (fun _ hk => hk.2) (.int .i64 t327)) (fun _ hk => trivial)⟩,⟨by repeat (first|(with_reducible first|exact HB.out|apply below_alloc|apply pw_below_drewN|apply below_drew1|refine below_set ?_ GE329.out)|exact HB.out)⟩⟩
        ·rw [if_neg c8] at H
         exact absurd H (by simp)
       ·rw [if_neg c7] at H
        exact absurd H (by simp)
      ·rw [if_neg c6] at H
       exact absurd H (by simp)
     ·replace c5 := Bool.eq_false_iff.mpr c5
      subst c5
      have H1 : (some x5_1) = some r := by rw [if_neg (show ¬ (false = true) by decide)] at H; exact H
      clear H
      have H := H1
      clear H1
      obtain rfl := Option.some.inj H
      go_wp2
      go_ret
      exact ⟨_,by first|rfl|(simp [errW_none,errW_some] <;> rfl)|(simp [*,errW_none,errW_some] <;> rfl),by (with_reducible repeat (first|apply Kd.S_alloc|apply Kd.S_drewN|apply Kd.S_drew));exact HO_5.out,by repeat (first|(with_reducible first|exact HB.out|apply below_alloc|apply pw_below_drewN|apply below_drew1)|exact HB.out)⟩


/-! ### strakelaw15_PageReads: function 4 -/
def strakelaw15_PageReads.j0 : Nat → List (List Int) → List (List Int) → Bool → Bool → Option (Bool)
 | 0, _, _, _, _ => none
 | k + 1,x0,x1,x5,x19 => if x19 = true then (some x5) else ((page_Read.f k x0 x1).bind fun t343 => ((strakeref15_Read.f k x0 x1).bind fun t346 => ((strakeref15_SameFound.f k t343 t346).bind fun t349 => (if x5 = true then (some t349) else (some false)))))
def strakelaw15_PageReads.f (k : Nat) (l0 : List (List Int)) (l1 : List (List Int)) : Option (Bool) := (strakelaw15_awake.f k).bind fun t340 => ((strakelaw15_short.f k l0).bind fun t341 => ((strakelaw15_short.f k l1).bind fun t342 => (if t341 = true then (strakelaw15_PageReads.j0 k l0 l1 t340 (!t342)) else (strakelaw15_PageReads.j0 k l0 l1 t340 true))))
theorem strakelaw15_PageReads.mono_l : ∀ k,(∀ y0 y1 y2 y3,LeO (strakelaw15_PageReads.j0 k y0 y1 y2 y3) (strakelaw15_PageReads.j0 (k + 1) y0 y1 y2 y3))
 | 0 => fun _ _ _ _ r h => by simp [strakelaw15_PageReads.j0] at h
 | k + 1 => by
  have ih0 := strakelaw15_PageReads.mono_l k
  ·intro y0 y1 y2 y3
   unfold strakelaw15_PageReads.j0
   repeat' first
   | (with_reducible exact ih0 _ _ _ _)
   | (with_reducible exact page_Read.mono _ _ _)
   | (with_reducible exact strakelaw15_awake.mono _)
   | (with_reducible exact strakelaw15_short.mono _ _)
   | (with_reducible exact strakeref15_Read.mono _ _ _)
   | (with_reducible exact strakeref15_SameFound.mono _ _ _)
   | (with_reducible exact LeO.refl _)
   | (with_reducible exact LeO.none _)
   | (with_reducible refine LeO.ite ?_ ?_)
   | (with_reducible refine LeO.bind ?_ (fun _ => ?_))
   | exact ih0 _ _ _ _
   | exact page_Read.mono _ _ _
   | exact strakelaw15_awake.mono _
   | exact strakelaw15_short.mono _ _
   | exact strakeref15_Read.mono _ _ _
   | exact strakeref15_SameFound.mono _ _ _
   | exact LeO.none _
   | refine LeO.ite ?_ ?_
   | refine LeO.bind ?_ (fun _ => ?_)
theorem strakelaw15_PageReads.mono : ∀ a0 a1 k,LeO (strakelaw15_PageReads.f k a0 a1) (strakelaw15_PageReads.f (k + 1) a0 a1) := by
 intro a0 a1 k
 have ih0 := strakelaw15_PageReads.mono_l k
 unfold strakelaw15_PageReads.f
 repeat' first
   | (with_reducible exact ih0 _ _ _ _)
   | (with_reducible exact page_Read.mono _ _ _)
   | (with_reducible exact strakelaw15_awake.mono _)
   | (with_reducible exact strakelaw15_short.mono _ _)
   | (with_reducible exact strakeref15_Read.mono _ _ _)
   | (with_reducible exact strakeref15_SameFound.mono _ _ _)
   | (with_reducible exact LeO.refl _)
   | (with_reducible exact LeO.none _)
   | (with_reducible refine LeO.ite ?_ ?_)
   | (with_reducible refine LeO.bind ?_ (fun _ => ?_))
   | exact ih0 _ _ _ _
   | exact page_Read.mono _ _ _
   | exact strakelaw15_awake.mono _
   | exact strakelaw15_short.mono _ _
   | exact strakeref15_Read.mono _ _ _
   | exact strakeref15_SameFound.mono _ _ _
   | exact LeO.none _
   | refine LeO.ite ?_ ?_
   | refine LeO.bind ?_ (fun _ => ?_)
set_option maxHeartbeats 8000000 in
set_option maxRecDepth 100000 in
theorem strakelaw15_PageReads.calls (k : Nat) (A0 : Option Addr) (c0 : Nat) (l0 : List (List Int)) (A1 : Option Addr) (c1 : Nat) (l1 : List (List Int)) (r : Bool) (w : World) (hr0 : Kd.C (Kd.slice 5 (Kd.int .u8)) w A0 l0.length l0) (hc0 : l0.length ≤ c0) (hr1 : Kd.C (Kd.slice 5 (Kd.int .u8)) w A1 l1.length l1) (hc1 : l1.length ≤ c1) (h : strakelaw15_PageReads.f k l0 l1 = some r) :
  Calls Try.prog 4 #[.slice A0 l0.length c0,.slice A1 l1.length c1] w fun e w' => e = .returned (.bool r) ∧ Below w.heap.size w w' := by
 have HR0 := Aside0.mk hr0
 have HC0 := Aside0.mk hc0
 clear hr0 hc0
 have HR1 := Aside0.mk hr1
 have HC1 := Aside0.mk hc1
 clear hr1 hc1
 have HB := Aside0.mk (Below.refl w.heap.size w)
 have H : ((strakelaw15_awake.f k).bind fun t340 => ((strakelaw15_short.f k l0).bind fun t341 => ((strakelaw15_short.f k l1).bind fun t342 => (if t341 = true then (strakelaw15_PageReads.j0 k l0 l1 t340 (!t342)) else (strakelaw15_PageReads.j0 k l0 l1 t340 true))))) = some r := h
 clear h
 replace H := Option.bind_eq_some_iff.mp H
 obtain ⟨t340, A30, H⟩ := H
 replace H : ((strakelaw15_short.f k l0).bind fun t341 => ((strakelaw15_short.f k l1).bind fun t342 => (if t341 = true then (strakelaw15_PageReads.j0 k l0 l1 t340 (!t342)) else (strakelaw15_PageReads.j0 k l0 l1 t340 true)))) = some r := H
 have A3 := Aside0.mk A30
 clear A30
 replace H := Option.bind_eq_some_iff.mp H
 obtain ⟨t341, A40, H⟩ := H
 replace H : ((strakelaw15_short.f k l1).bind fun t342 => (if t341 = true then (strakelaw15_PageReads.j0 k l0 l1 t340 (!t342)) else (strakelaw15_PageReads.j0 k l0 l1 t340 true))) = some r := H
 have A4 := Aside0.mk A40
 clear A40
 replace H := Option.bind_eq_some_iff.mp H
 obtain ⟨t342, A50, H⟩ := H
 replace H : (if t341 = true then (strakelaw15_PageReads.j0 k l0 l1 t340 (!t342)) else (strakelaw15_PageReads.j0 k l0 l1 t340 true)) = some r := H
 have A5 := Aside0.mk A50
 clear A50
 have HC6 := Aside0.mk H
 clear H
 go_enter Try.func4, Try.ntmps4
 go_upto_region 4 with (first|((with_reducible refine gate_callee (f := 9) rfl ?_);refine goesL_ (some 9) rfl rfl Try.func9 (by kernel_rfl) rfl #[] rfl (by (try simp only [List.map_toArray,List.map_cons,List.map_nil]);first|done|rfl|(simp only [List.length_drop,List.length_take];rfl)) ?_;(with_reducible refine (strakelaw15_awake.calls k  t340 _ A3.out).mono ?_);rintro e w7 ⟨rfl,hb⟩;refine ⟨_,rfl,?_⟩;have n0_ := Aside0.mk (below_step (by repeat (first|(with_reducible first|exact HB.out|apply below_alloc|apply pw_below_drewN|apply below_drew1)|exact HB.out)) hb);clear HB;have HB := n0_;clear n0_;(try clear hb);(try clear hb2);(try clear hk);(try clear hi))|((with_reducible refine gate_callee (f := 14) rfl ?_);refine goesL_ (some 11) rfl rfl Try.func14 (by kernel_rfl) rfl #[.slice A0 l0.length c0] rfl (by (try simp only [List.map_toArray,List.map_cons,List.map_nil]);first|done|rfl|(simp only [List.length_drop,List.length_take];rfl)) ?_;(with_reducible refine (strakelaw15_short.calls k _ _ l0 t341 _ ?side1 ?side2 A4.out).mono ?_);(case side1 => repeat (first|exact (Kd.C_below HR0.out HB.out)|(with_reducible refine Kd.C_alloc ?_ _)|(with_reducible refine Kd.C_drewN ?_ _)|(with_reducible refine Kd.C_drew ?_)));(case side2 => exact HC0.out);rintro e w' ⟨rfl,⟨nd,rfl⟩⟩;refine ⟨_,rfl,?_⟩)|((with_reducible refine gate_callee (f := 14) rfl ?_);refine goesL_ (some 13) rfl rfl Try.func14 (by kernel_rfl) rfl #[.slice A1 l1.length c1] rfl (by (try simp only [List.map_toArray,List.map_cons,List.map_nil]);first|done|rfl|(simp only [List.length_drop,List.length_take];rfl)) ?_;(with_reducible refine (strakelaw15_short.calls k _ _ l1 t342 _ ?side1 ?side2 A5.out).mono ?_);(case side1 => repeat (first|exact (Kd.C_below HR1.out (by repeat (first|(with_reducible first|exact HB.out|apply below_alloc|apply pw_below_drewN|apply below_drew1)|exact HB.out)))|(with_reducible refine Kd.C_alloc ?_ _)|(with_reducible refine Kd.C_drewN ?_ _)|(with_reducible refine Kd.C_drew ?_)));(case side2 => exact HC1.out);rintro e w' ⟨rfl,⟨nd,rfl⟩⟩;refine ⟨_,rfl,?_⟩))
 (try simp only [Act.put, List.setIfInBounds_toArray, List.set_cons_zero, List.set_cons_succ])
 go_cut [19] (fun v19 wc => ∃ (kq : Nat) (x19_5 : Bool),v19 = .bool x19_5 ∧ Aside0 (strakelaw15_PageReads.j0 kq l0 l1 t340 x19_5 = some r) ∧ Aside0 (kq ≤ k) ∧ Aside0 (Below w.heap.size w wc))
 case first =>
  have H := HC6.out
  clear HC6
  by_cases c8 : t341 = true
  ·subst c8
   have H1 : (strakelaw15_PageReads.j0 k l0 l1 t340 (!t342)) = some r := by rw [if_pos rfl] at H; exact H
   clear H
   have H := H1
   clear H1
   have H' := Aside0.mk H
   clear H
   go_wp2
   go_meet
   case rel => exact ⟨_,(!t342),(by first|rfl|(simp;done)|(simp [*];done)),H',⟨by first|omega|exact Nat.le_refl _⟩,⟨by repeat (first|(with_reducible first|exact HB.out|apply below_alloc|apply pw_below_drewN|apply below_drew1)|exact HB.out)⟩⟩
  ·replace c8 := Bool.eq_false_iff.mpr c8
   subst c8
   have H1 : (strakelaw15_PageReads.j0 k l0 l1 t340 true) = some r := by rw [if_neg (show ¬ (false = true) by decide)] at H;exact H
   clear H
   have H := H1
   clear H1
   have H' := Aside0.mk H
   clear H
   go_wp2
   go_meet
   case rel => exact ⟨_,(true),(by first|rfl|(simp;done)|(simp [*];done)),H',⟨by first|omega|exact Nat.le_refl _⟩,⟨by repeat (first|(with_reducible first|exact HB.out|apply below_alloc|apply pw_below_drewN|apply below_drew1)|exact HB.out)⟩⟩
 case rest =>
  clear HC6
  try clear c1
  try clear p2
  try clear c4
  try clear c8
  obtain ⟨kq, x19_5, rfl, HA, HJ5, HB⟩ := hcut
  cases kq with
  | zero => exact absurd HA.out (by simp [strakelaw15_PageReads.j0])
  | succ kj5 =>
   have H := HA.out
   clear HA
   simp only [strakelaw15_PageReads.j0] at H
   by_cases c9 : x19_5 = true
   ·subst c9
    have H1 : (some t340) = some r := by rw [if_pos rfl] at H; exact H
    clear H
    have H := H1
    clear H1
    obtain rfl := Option.some.inj H
    go_wp2
    go_ret
    exact ⟨by first|rfl|(simp [errW_none,errW_some] <;> rfl)|(simp [*,errW_none,errW_some] <;> rfl),by repeat (first|(with_reducible first|exact HB.out|apply below_alloc|apply pw_below_drewN|apply below_drew1)|exact HB.out)⟩
   ·replace c9 := Bool.eq_false_iff.mpr c9
    subst c9
    have H1 : ((page_Read.f kj5 l0 l1).bind fun t343 => ((strakeref15_Read.f kj5 l0 l1).bind fun t346 => ((strakeref15_SameFound.f kj5 t343 t346).bind fun t349 => (if t340 = true then (some t349) else (some false))))) = some r := by rw [if_neg (show ¬ (false = true) by decide)] at H;exact H
    clear H
    have H := H1
    clear H1
    replace H := Option.bind_eq_some_iff.mp H
    obtain ⟨t343, A100, H⟩ := H
    replace H : ((strakeref15_Read.f kj5 l0 l1).bind fun t346 => ((strakeref15_SameFound.f kj5 t343 t346).bind fun t349 => (if t340 = true then (some t349) else (some false)))) = some r := H
    have A10 := Aside0.mk A100
    clear A100
    replace H := Option.bind_eq_some_iff.mp H
    obtain ⟨t346, A110, H⟩ := H
    replace H : ((strakeref15_SameFound.f kj5 t343 t346).bind fun t349 => (if t340 = true then (some t349) else (some false))) = some r := H
    have A11 := Aside0.mk A110
    clear A110
    replace H := Option.bind_eq_some_iff.mp H
    obtain ⟨t349, A120, H⟩ := H
    replace H : (if t340 = true then (some t349) else (some false)) = some r := H
    have A12 := Aside0.mk A120
    clear A120
    by_cases c13 : t340 = true
    ·subst c13
     have H1 : (some t349) = some r := by rw [if_pos rfl] at H; exact H
     clear H
     have H := H1
     clear H1
     obtain rfl := Option.some.inj H
     go_wp2_with (first|((with_reducible refine gate_callee (f := 16) rfl ?_);refine goesL_ (some 23) rfl rfl Try.func16 (by kernel_rfl) rfl #[.slice A0 l0.length c0,.slice A1 l1.length c1] rfl (by (try simp only [List.map_toArray,List.map_cons,List.map_nil]);first|done|rfl|(simp only [List.length_drop,List.length_take];rfl)) ?_;(with_reducible refine (page_Read.calls kj5 _ _ l0 _ _ l1 t343 _ ?side1 ?side2 ?side3 ?side4 A10.out).mono ?_);(case side1 => repeat (first|exact (Kd.C_below HR0.out HB.out)|(with_reducible refine Kd.C_alloc ?_ _)|(with_reducible refine Kd.C_drewN ?_ _)|(with_reducible refine Kd.C_drew ?_)));(case side2 => exact HC0.out);(case side3 => repeat (first|exact (Kd.C_below HR1.out HB.out)|(with_reducible refine Kd.C_alloc ?_ _)|(with_reducible refine Kd.C_drewN ?_ _)|(with_reducible refine Kd.C_drew ?_)));(case side4 => exact HC1.out);rintro e w14 ⟨v344,rfl,ho0,hb⟩;refine ⟨_,rfl,?_⟩;have n0_ := Aside0.mk (Kd.S_lower ho0 (below_size (by repeat (first|(with_reducible first|exact HB.out|apply below_alloc|apply pw_below_drewN|apply below_drew1)|exact HB.out))));have n1_ := Aside0.mk (below_step (by repeat (first|(with_reducible first|exact HB.out|apply below_alloc|apply pw_below_drewN|apply below_drew1)|exact HB.out)) hb);clear HB;have HO345 := n0_;have HB := n1_;clear n0_ n1_;(try clear hb);(try clear hb2);(try clear hk);(try clear hi);(try clear ho0))|((with_reducible refine gate_callee (f := 17) rfl ?_);refine goesL_ (some 26) rfl rfl Try.func17 (by kernel_rfl) rfl #[.slice A0 l0.length c0,.slice A1 l1.length c1] rfl (by (try simp only [List.map_toArray,List.map_cons,List.map_nil]);first|done|rfl|(simp only [List.length_drop,List.length_take];rfl)) ?_;(with_reducible refine (strakeref15_Read.calls kj5 _ _ l0 _ _ l1 t346 _ ?side1 ?side2 ?side3 ?side4 A11.out).mono ?_);(case side1 => repeat (first|exact (Kd.C_below HR0.out HB.out)|(with_reducible refine Kd.C_alloc ?_ _)|(with_reducible refine Kd.C_drewN ?_ _)|(with_reducible refine Kd.C_drew ?_)));(case side2 => exact HC0.out);(case side3 => repeat (first|exact (Kd.C_below HR1.out HB.out)|(with_reducible refine Kd.C_alloc ?_ _)|(with_reducible refine Kd.C_drewN ?_ _)|(with_reducible refine Kd.C_drew ?_)));(case side4 => exact HC1.out);rintro e w15 ⟨v347,rfl,ho0,hb⟩;refine ⟨_,rfl,?_⟩;have n0_ := Aside0.mk (Kd.S_elder' (by (with_reducible repeat (first|apply Kd.S_alloc|apply Kd.S_drewN|apply Kd.S_drew));exact HO345.out) (Kd.S_base ho0) hb);have n1_ := Aside0.mk (Kd.S_lower (Kd.S_new' ho0 (Kd.S_lt (by (with_reducible repeat (first|apply Kd.S_alloc|apply Kd.S_drewN|apply Kd.S_drew));exact HO345.out))) (below_size (by repeat (first|(with_reducible first|exact HB.out|apply below_alloc|apply pw_below_drewN|apply below_drew1)|exact HB.out))));have n2_ := Aside0.mk (below_step (by repeat (first|(with_reducible first|exact HB.out|apply below_alloc|apply pw_below_drewN|apply below_drew1)|exact HB.out)) hb);clear HO345;clear HB;have HO345 := n0_;have HO348 := n1_;have HB := n2_;clear n0_ n1_ n2_;(try clear hb);(try clear hb2);(try clear hk);(try clear hi);(try clear ho0);obtain ⟨Ao16,co16,eo16⟩ := Kd.S_slice HO345.out;subst eo16;obtain ⟨Ao17,co17,eo17⟩ := Kd.S_slice HO348.out;subst eo17)|((with_reducible refine gate_callee (f := 15) rfl ?_);refine goesL_ (some 27) rfl rfl Try.func15 (by kernel_rfl) rfl #[.slice Ao16 t343.length co16,.slice Ao17 t346.length co17] rfl (by (try simp only [List.map_toArray,List.map_cons,List.map_nil]);first|done|rfl|(simp only [List.length_drop,List.length_take];rfl)) ?_;(with_reducible refine (strakeref15_SameFound.calls kj5 _ _ t343 _ _ t346 t349 _ ?side1 ?side2 ?side3 ?side4 A12.out).mono ?_);(case side1 => repeat (first|exact (Kd.S_reads' HO345.out).2.2|(with_reducible refine Kd.C_alloc ?_ _)|(with_reducible refine Kd.C_drewN ?_ _)|(with_reducible refine Kd.C_drew ?_)));(case side2 => exact (Kd.S_reads' HO345.out).2.1);(case side3 => repeat (first|exact (Kd.S_reads' HO348.out).2.2|(with_reducible refine Kd.C_alloc ?_ _)|(with_reducible refine Kd.C_drewN ?_ _)|(with_reducible refine Kd.C_drew ?_)));(case side4 => exact (Kd.S_reads' HO348.out).2.1);rintro e w' ⟨rfl,⟨nd,rfl⟩⟩;refine ⟨_,rfl,?_⟩))
     go_ret
     exact ⟨by first|rfl|(simp [errW_none,errW_some] <;> rfl)|(simp [*,errW_none,errW_some] <;> rfl),by repeat (first|(with_reducible first|exact HB.out|apply below_alloc|apply pw_below_drewN|apply below_drew1)|exact HB.out)⟩
    ·replace c13 := Bool.eq_false_iff.mpr c13
     subst c13
     have H1 : (some false) = some r := by rw [if_neg (show ¬ (false = true) by decide)] at H; exact H
     clear H
     have H := H1
     clear H1
     obtain rfl := Option.some.inj H
     go_wp2_with (first|((with_reducible refine gate_callee (f := 16) rfl ?_);refine goesL_ (some 23) rfl rfl Try.func16 (by kernel_rfl) rfl #[.slice A0 l0.length c0,.slice A1 l1.length c1] rfl (by (try simp only [List.map_toArray,List.map_cons,List.map_nil]);first|done|rfl|(simp only [List.length_drop,List.length_take];rfl)) ?_;(with_reducible refine (page_Read.calls kj5 _ _ l0 _ _ l1 t343 _ ?side1 ?side2 ?side3 ?side4 A10.out).mono ?_);(case side1 => repeat (first|exact (Kd.C_below HR0.out HB.out)|(with_reducible refine Kd.C_alloc ?_ _)|(with_reducible refine Kd.C_drewN ?_ _)|(with_reducible refine Kd.C_drew ?_)));(case side2 => exact HC0.out);(case side3 => repeat (first|exact (Kd.C_below HR1.out HB.out)|(with_reducible refine Kd.C_alloc ?_ _)|(with_reducible refine Kd.C_drewN ?_ _)|(with_reducible refine Kd.C_drew ?_)));(case side4 => exact HC1.out);rintro e w18 ⟨v344,rfl,ho0,hb⟩;refine ⟨_,rfl,?_⟩;have n0_ := Aside0.mk (Kd.S_lower ho0 (below_size (by repeat (first|(with_reducible first|exact HB.out|apply below_alloc|apply pw_below_drewN|apply below_drew1)|exact HB.out))));have n1_ := Aside0.mk (below_step (by repeat (first|(with_reducible first|exact HB.out|apply below_alloc|apply pw_below_drewN|apply below_drew1)|exact HB.out)) hb);clear HB;have HO345 := n0_;have HB := n1_;clear n0_ n1_;(try clear hb);(try clear hb2);(try clear hk);(try clear hi);(try clear ho0))|((with_reducible refine gate_callee (f := 17) rfl ?_);refine goesL_ (some 26) rfl rfl Try.func17 (by kernel_rfl) rfl #[.slice A0 l0.length c0,.slice A1 l1.length c1] rfl (by (try simp only [List.map_toArray,List.map_cons,List.map_nil]);first|done|rfl|(simp only [List.length_drop,List.length_take];rfl)) ?_;(with_reducible refine (strakeref15_Read.calls kj5 _ _ l0 _ _ l1 t346 _ ?side1 ?side2 ?side3 ?side4 A11.out).mono ?_);(case side1 => repeat (first|exact (Kd.C_below HR0.out HB.out)|(with_reducible refine Kd.C_alloc ?_ _)|(with_reducible refine Kd.C_drewN ?_ _)|(with_reducible refine Kd.C_drew ?_)));(case side2 => exact HC0.out);(case side3 => repeat (first|exact (Kd.C_below HR1.out HB.out)|(with_reducible refine Kd.C_alloc ?_ _)|(with_reducible refine Kd.C_drewN ?_ _)|(with_reducible refine Kd.C_drew ?_)));(case side4 => exact HC1.out);rintro e w19 ⟨v347,rfl,ho0,hb⟩;refine ⟨_,rfl,?_⟩;have n0_ := Aside0.mk (Kd.S_elder' (by (with_reducible repeat (first|apply Kd.S_alloc|apply Kd.S_drewN|apply Kd.S_drew));exact HO345.out) (Kd.S_base ho0) hb);have n1_ := Aside0.mk (Kd.S_lower (Kd.S_new' ho0 (Kd.S_lt (by (with_reducible repeat (first|apply Kd.S_alloc|apply Kd.S_drewN|apply Kd.S_drew));exact HO345.out))) (below_size (by repeat (first|(with_reducible first|exact HB.out|apply below_alloc|apply pw_below_drewN|apply below_drew1)|exact HB.out))));have n2_ := Aside0.mk (below_step (by repeat (first|(with_reducible first|exact HB.out|apply below_alloc|apply pw_below_drewN|apply below_drew1)|exact HB.out)) hb);clear HO345;clear HB;have HO345 := n0_;have HO348 := n1_;have HB := n2_;clear n0_ n1_ n2_;(try clear hb);(try clear hb2);(try clear hk);(try clear hi);(try clear ho0);obtain ⟨Ao20,co20,eo20⟩ := Kd.S_slice HO345.out;subst eo20;obtain ⟨Ao21,co21,eo21⟩ := Kd.S_slice HO348.out;subst eo21)|((with_reducible refine gate_callee (f := 15) rfl ?_);refine goesL_ (some 27) rfl rfl Try.func15 (by kernel_rfl) rfl #[.slice Ao20 t343.length co20,.slice Ao21 t346.length co21] rfl (by (try simp only [List.map_toArray,List.map_cons,List.map_nil]);first|done|rfl|(simp only [List.length_drop,List.length_take];rfl)) ?_;(with_reducible refine (strakeref15_SameFound.calls kj5 _ _ t343 _ _ t346 t349 _ ?side1 ?side2 ?side3 ?side4 A12.out).mono ?_);(case side1 => repeat (first|exact (Kd.S_reads' HO345.out).2.2|(with_reducible refine Kd.C_alloc ?_ _)|(with_reducible refine Kd.C_drewN ?_ _)|(with_reducible refine Kd.C_drew ?_)));(case side2 => exact (Kd.S_reads' HO345.out).2.1);(case side3 => repeat (first|exact (Kd.S_reads' HO348.out).2.2|(with_reducible refine Kd.C_alloc ?_ _)|(with_reducible refine Kd.C_drewN ?_ _)|(with_reducible refine Kd.C_drew ?_)));(case side4 => exact (Kd.S_reads' HO348.out).2.1);rintro e w' ⟨rfl,⟨nd,rfl⟩⟩;refine ⟨_,rfl,?_⟩))
     go_ret
     exact ⟨by first|rfl|(simp [errW_none,errW_some] <;> rfl)|(simp [*,errW_none,errW_some] <;> rfl),by repeat (first|(with_reducible first|exact HB.out|apply below_alloc|apply pw_below_drewN|apply below_drew1)|exact HB.out)⟩

end Go.Proofs.Ythoebkkohdfgeaa.X
