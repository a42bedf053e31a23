-- laid by wip/tools/xprint.py (our own changes over the printer)
import Derived.Test.YtlciniiiijfbmaaX0
namespace Go.Proofs.Ytlciniiiijfbmaa.X
open Go.RowKit Go.Proofs.YtlciniiiijfbmaaW.PrintWords Go.Proofs.YtlciniiiijfbmaaW.PrintLast Go.Proofs.YtlciniiiijfbmaaW.PrintMore
attribute [local go_sem] max2_int min2_int max_two min_two max_three min_three max_four min_four   -- for this text's walks alone
set_option linter.unusedVariables false
set_option linter.unusedSimpArgs false

/-! ### crc_Add: function 13 -/
mutual
def crc_Add.l0 : Nat → Int → List Int → Int → Int → Option (Int)
  | 0, _, _, _, _ => none
  | k + 1, x5, x11, x12, x13 => if x13 < x12 then (if 0 ≤ x13 then (if x13 < (x11.length : Int) then (crc_Add.l1 k (Go.bits .xor .u32 x5 ((rd x11 x13) % 4294967296)) x11 x12 x13 0) else (none)) else (none)) else (some (Go.bits .xor .u32 4294967295 x5))
def crc_Add.l1 : Nat → Int → List Int → Int → Int → Int → Option (Int)
  | 0, _, _, _, _, _ => none
  | k + 1, x5, x11, x12, x13, x21 => if x21 < 8 then (if (Go.bits .and .u32 x5 1) = 1 then (crc_Add.l1 k (Go.bits .xor .u32 (x5 / 2) 3988292384) x11 x12 x13 (wrap64 (x21 + 1))) else (crc_Add.l1 k (x5 / 2) x11 x12 x13 (wrap64 (x21 + 1)))) else (crc_Add.l0 k x5 x11 x12 (wrap64 (x13 + 1)))
end
def crc_Add.f (k : Nat) (a0 : Int) (l1 : List Int) : Option (Int) := crc_Add.l0 k (Go.bits .xor .u32 4294967295 a0) l1 (l1.length : Int) 0
theorem crc_Add.mono_l : ∀ k, (∀ y0 y1 y2 y3, LeO (crc_Add.l0 k y0 y1 y2 y3) (crc_Add.l0 (k + 1) y0 y1 y2 y3)) ∧ (∀ y0 y1 y2 y3 y4, LeO (crc_Add.l1 k y0 y1 y2 y3 y4) (crc_Add.l1 (k + 1) y0 y1 y2 y3 y4))
  | 0 => ⟨fun _ _ _ _ r h => by simp [crc_Add.l0] at h, fun _ _ _ _ _ r h => by simp [crc_Add.l1] at h⟩
  | k + 1 => by
    obtain ⟨ih0, ih1⟩ := crc_Add.mono_l k
    refine ⟨?_, ?_⟩
    · intro y0 y1 y2 y3
      unfold crc_Add.l0
      repeat' first
      | (with_reducible exact ih0 _ _ _ _)
      | (with_reducible exact ih1 _ _ _ _ _)
      | (with_reducible exact LeO.refl _)
      | (with_reducible exact LeO.none _)
      | (with_reducible refine LeO.ite ?_ ?_)
      | (with_reducible refine LeO.bind ?_ (fun _ => ?_))
      | exact ih0 _ _ _ _
      | exact ih1 _ _ _ _ _
      | exact LeO.none _
      | refine LeO.ite ?_ ?_
      | refine LeO.bind ?_ (fun _ => ?_)
    · intro y0 y1 y2 y3 y4
      unfold crc_Add.l1
      repeat' first
      | (with_reducible exact ih0 _ _ _ _)
      | (with_reducible exact ih1 _ _ _ _ _)
      | (with_reducible exact LeO.refl _)
      | (with_reducible exact LeO.none _)
      | (with_reducible refine LeO.ite ?_ ?_)
      | (with_reducible refine LeO.bind ?_ (fun _ => ?_))
      | exact ih0 _ _ _ _
      | exact ih1 _ _ _ _ _
      | exact LeO.none _
      | refine LeO.ite ?_ ?_
      | refine LeO.bind ?_ (fun _ => ?_)
theorem crc_Add.mono : ∀ a0 a1 k, LeO (crc_Add.f k a0 a1) (crc_Add.f (k + 1) a0 a1) := by
  intro a0 a1 k
  obtain ⟨ih0, ih1⟩ := crc_Add.mono_l k
  unfold crc_Add.f
  repeat' first
      | (with_reducible exact ih0 _ _ _ _)
      | (with_reducible exact ih1 _ _ _ _ _)
      | (with_reducible exact LeO.refl _)
      | (with_reducible exact LeO.none _)
      | (with_reducible refine LeO.ite ?_ ?_)
      | (with_reducible refine LeO.bind ?_ (fun _ => ?_))
      | exact ih0 _ _ _ _
      | exact ih1 _ _ _ _ _
      | exact LeO.none _
      | refine LeO.ite ?_ ?_
      | refine LeO.bind ?_ (fun _ => ?_)
set_option maxHeartbeats 8000000 in
set_option maxRecDepth 100000 in
theorem crc_Add.calls (k : Nat) (a0 : Int) (A1 : Option Addr) (c1 : Nat) (l1 : List Int) (r : Int) (w : World) (hr1 : Kd.C (Kd.int .u8) w A1 l1.length l1) (hc1 : l1.length ≤ c1) (h : crc_Add.f k a0 l1 = some r) :
    Calls Try.prog 13 #[.int .u32 a0, .slice A1 l1.length c1] w fun e w' => e = .returned (.int .u32 r) ∧ Drawn0 w w' := by
  have HR1 := Aside0.mk hr1
  have HC1 := Aside0.mk hc1
  clear hr1 hc1
  have H : (crc_Add.l0 k (Go.bits .xor .u32 4294967295 a0) l1 (l1.length : Int) 0) = some r := h
  clear h
  have H' := Aside0.mk H
  clear H
  go_enter Try.func13, Try.ntmps13
  go_wp2
  go_loopg [5, 13] k (fun kq v5 v13 w' => ∃ (x5_1 : Int) (x13_1 : Int), v5 = .int .u32 x5_1 ∧ v13 = .int .i64 x13_1 ∧ Aside0 (crc_Add.l0 kq x5_1 l1 (l1.length : Int) x13_1 = some r) ∧ Aside0 (kq ≤ k) ∧ Drawn0 w w')
  case atStart => exact ⟨(Go.bits .xor .u32 4294967295 a0), (0), (by first | rfl | (simp; done) | (simp [*]; done)), (by first | rfl | (simp; done) | (simp [*]; done)), H', ⟨Nat.le_refl _⟩, by repeat (first | exact Drawn0.refl _ | apply Drawn0.step)⟩
  case round =>
    clear H'
    try clear c1
    try clear p2
    obtain ⟨x5_1, x13_1, rfl, rfl, HA, HK1, ⟨m1, rfl⟩⟩ := hrel
    cases gk with
    | zero => exact absurd HA.out (by simp [crc_Add.l0])
    | succ k1 =>
      have H := HA.out
      clear HA
      simp only [crc_Add.l0] at H
      by_cases c3 : x13_1 < (l1.length : Int)
      · rw [if_pos c3] at H
        have c3b0 : decide (x13_1 < (l1.length : Int)) = true := decide_eq_true c3
        clear c3
        by_cases c4 : 0 ≤ x13_1
        · rw [if_pos c4] at H
          have c4b0 : decide (0 ≤ x13_1) = true := decide_eq_true c4
          clear c4
          by_cases c5 : x13_1 < (l1.length : Int)
          · rw [if_pos c5] at H
            have c5b0 : decide (x13_1 < (l1.length : Int)) = true := decide_eq_true c5
            clear c5
            have H' := Aside0.mk H
            clear H
            have p101 : 0 ≤ (x13_1 : Int) := of_decide_eq_true (by first | (with_reducible assumption) | assumption)
            have q101 : x13_1 < (l1.length : Int) := of_decide_eq_true (by first | (with_reducible assumption) | assumption)
            obtain ⟨ad101, e101, hx101_0⟩ := Kd.at_int HR1.out x13_1 p101 q101
            cases e101
            replace p101 := eq_true p101
            replace q101 := eq_true q101
            go_wp2
            go_loopg [5, 21] k1 (fun kq v5 v21 w' => ∃ (x5_2 : Int) (x21_2 : Int), v5 = .int .u32 x5_2 ∧ v21 = .int .i64 x21_2 ∧ Aside0 (crc_Add.l1 kq x5_2 l1 (l1.length : Int) x13_1 x21_2 = some r) ∧ Aside0 (kq ≤ k1) ∧ Drawn0 w w')
            case atStart => exact ⟨(Go.bits .xor .u32 x5_1 ((rd l1 x13_1) % 4294967296)), (0), (by first | rfl | (simp; done) | (simp [*]; done)), (by first | rfl | (simp; done) | (simp [*]; done)), H', ⟨Nat.le_refl _⟩, by repeat (first | exact Drawn0.refl _ | apply Drawn0.step)⟩
            case round =>
              clear H'
              try clear c1
              try clear p1
              try clear q1
              try clear hx1
              try clear p2
              try clear c3
              try clear c3b0
              try clear c4
              try clear c4b0
              try clear c5
              try clear c5b0
              try clear hx101_0
              try clear p101
              try clear p2
              try clear q101
              obtain ⟨x5_2, x21_2, rfl, rfl, HA, HK2, ⟨m2, rfl⟩⟩ := hrel
              cases gk with
              | zero => exact absurd HA.out (by simp [crc_Add.l1])
              | succ k2 =>
                have H := HA.out
                clear HA
                simp only [crc_Add.l1] at H
                by_cases c6 : x21_2 < 8
                · rw [if_pos c6] at H
                  have c6b0 : decide (x21_2 < 8) = true := decide_eq_true c6
                  clear c6
                  by_cases c7 : (Go.bits .and .u32 x5_2 1) = 1
                  · rw [if_pos c7] at H
                    have c7b0 : ((Go.bits .and .u32 x5_2 1) == 1) = true := beq_iff_eq.mpr c7
                    have c7b1 : ((Go.bits .and .u32 x5_2 1) != 1) = false := bne_eq_false_iff_eq.mpr c7
                    clear c7
                    have H' := Aside0.mk H
                    clear H
                    go_wp2
                    go_roundg k2
                    case measure => have := HK1.out; have := HK2.out; omega
                    case rel => exact ⟨(Go.bits .xor .u32 (x5_2 / 2) 3988292384), (wrap64 (x21_2 + 1)), (by first | rfl | (simp; done) | (simp [*]; done)), (by first | rfl | (simp; done) | (simp [*]; done)), H', ⟨by have := HK1.out; have := HK2.out; omega⟩, by repeat (first | exact Drawn0.refl _ | apply Drawn0.step)⟩
                  · rw [if_neg c7] at H
                    have c7b0 : ((Go.bits .and .u32 x5_2 1) == 1) = false := beq_eq_false_iff_ne.mpr c7
                    have c7b1 : ((Go.bits .and .u32 x5_2 1) != 1) = true := bne_iff_ne.mpr c7
                    have H' := Aside0.mk H
                    clear H
                    go_wp2
                    go_roundg k2
                    case measure => have := HK1.out; have := HK2.out; omega
                    case rel => exact ⟨(x5_2 / 2), (wrap64 (x21_2 + 1)), (by first | rfl | (simp; done) | (simp [*]; done)), (by first | rfl | (simp; done) | (simp [*]; done)), H', ⟨by have := HK1.out; have := HK2.out; omega⟩, by repeat (first | exact Drawn0.refl _ | apply Drawn0.step)⟩
                · rw [if_neg c6] at H
                  have c6b0 : decide (x21_2 < 8) = false := decide_eq_false c6
                  clear c6
                  have H' := Aside0.mk H
                  clear H
                  go_wp2
                  go_roundg k2
                  case measure => have := HK1.out; have := HK2.out; omega
                  case rel => exact ⟨(x5_2), (wrap64 (x13_1 + 1)), (by first | rfl | (simp; done) | (simp [*]; done)), (by first | rfl | (simp; done) | (simp [*]; done)), H', ⟨by have := HK1.out; have := HK2.out; omega⟩, by repeat (first | exact Drawn0.refl _ | apply Drawn0.step)⟩
          · rw [if_neg c5] at H
            exact absurd H (by simp)
        · rw [if_neg c4] at H
          exact absurd H (by simp)
      · rw [if_neg c3] at H
        have c3b0 : decide (x13_1 < (l1.length : Int)) = false := decide_eq_false c3
        clear c3
        obtain rfl := Option.some.inj H
        go_wp2
        go_ret
        exact ⟨by first | rfl | (simp; done) | (simp [*]; done), by repeat (first | exact Drawn0.refl _ | apply Drawn0.step)⟩

/-! ### crc_Sum: function 11 -/
def crc_Sum.f (k : Nat) (l0 : List Int) : Option (Int) := (crc_Add.f k 0 l0).bind fun t102 => (some t102)
theorem crc_Sum.mono : ∀ a0 k, LeO (crc_Sum.f k a0) (crc_Sum.f (k + 1) a0) := by
  intro a0 k
  unfold crc_Sum.f
  repeat' first
      | (with_reducible exact crc_Add.mono _ _ _)
      | (with_reducible exact LeO.refl _)
      | (with_reducible exact LeO.none _)
      | (with_reducible refine LeO.ite ?_ ?_)
      | (with_reducible refine LeO.bind ?_ (fun _ => ?_))
      | exact crc_Add.mono _ _ _
      | exact LeO.none _
      | refine LeO.ite ?_ ?_
      | refine LeO.bind ?_ (fun _ => ?_)
set_option maxHeartbeats 8000000 in
set_option maxRecDepth 100000 in
theorem crc_Sum.calls (k : Nat) (A0 : Option Addr) (c0 : Nat) (l0 : List Int) (r : Int) (w : World) (hr0 : Kd.C (Kd.int .u8) w A0 l0.length l0) (hc0 : l0.length ≤ c0) (h : crc_Sum.f k l0 = some r) :
    Calls Try.prog 11 #[.slice A0 l0.length c0] w fun e w' => e = .returned (.int .u32 r) ∧ Drawn0 w w' := by
  have HR0 := Aside0.mk hr0
  have HC0 := Aside0.mk hc0
  clear hr0 hc0
  have H : ((crc_Add.f k 0 l0).bind fun t102 => (some t102)) = some r := h
  clear h
  replace H := Option.bind_eq_some_iff.mp H
  obtain ⟨t102, A20, H⟩ := H
  replace H : (some t102) = some r := H
  have A2 := Aside0.mk A20
  clear A20
  obtain rfl := Option.some.inj H
  go_enter Try.func11, Try.ntmps11
  go_wp2_with (first | ((with_reducible refine gate_callee (f := 13) rfl ?_); refine goesL_ (some 4) rfl rfl Try.func13 (by kernel_rfl) rfl #[.int .u32 0, .slice A0 l0.length c0] rfl (by (try simp only [List.map_toArray, List.map_cons, List.map_nil]); first | done | rfl | (simp only [List.length_drop, List.length_take]; rfl)) ?_; (with_reducible refine (crc_Add.calls k 0 _ _ l0 t102 _ ?side1 ?side2 A2.out).mono ?_); (case side1 => repeat (first | exact HR0.out | (with_reducible refine Kd.C_alloc ?_ _) | (with_reducible refine Kd.C_drewN ?_ _) | (with_reducible refine Kd.C_drew ?_))); (case side2 => exact HC0.out); rintro e w' ⟨rfl, ⟨nd, rfl⟩⟩; refine ⟨_, rfl, ?_⟩))
  go_ret
  exact ⟨by first | rfl | (simp; done) | (simp [*]; done), by repeat (first | exact Drawn0.refl _ | apply Drawn0.step)⟩

/-! ### strakelaw01_awake: function 10 -/
def strakelaw01_awake.f (k : Nat)  : Option (Bool) := (crc_Sum.f k (([49, 50, 51, 52, 53, 54, 55, 56, 57] : List Int))).bind fun t106 => (some (t106 == 3421780262))
theorem strakelaw01_awake.mono : ∀ k, LeO (strakelaw01_awake.f k ) (strakelaw01_awake.f (k + 1) ) := by
  intro  k
  unfold strakelaw01_awake.f
  repeat' first
      | (with_reducible exact crc_Sum.mono _ _)
      | (with_reducible exact LeO.refl _)
      | (with_reducible exact LeO.none _)
      | (with_reducible refine LeO.ite ?_ ?_)
      | (with_reducible refine LeO.bind ?_ (fun _ => ?_))
      | exact crc_Sum.mono _ _
      | exact LeO.none _
      | refine LeO.ite ?_ ?_
      | refine LeO.bind ?_ (fun _ => ?_)
theorem C_lit (W : World) (C : Array Value) (e : TypeId) (fz : Nat × Nat) (l : List Int) (hC : C.toList = l.map (Value.int .u8)) (hl : l.length ≤ 9223372036854775807) :
    Kd.C (Kd.int .u8) (W.alloc (.cells C e fz)) (some ⟨W.heap.size, 0, none⟩) l.length l := by
  refine ⟨rfl, hl, fun _ => ⟨_, rfl, fun j p hj => ⟨[.int .u8 p], rfl, rfl, fun i u hi => ?_⟩⟩⟩
  match i, hi with
  | 0, hi =>
    obtain rfl : Value.int .u8 p = u := by simpa using hi
    have hlt : j < l.length := (List.getElem?_eq_some_iff.1 hj).1
    have hg : C[j]? = some (.int .u8 p) := by
      rw [← Array.getElem?_toList, hC, List.getElem?_map, hj]; rfl
    have ha : (⟨W.heap.size, 0, none⟩ : Addr).add (j * (Kd.int .u8).sz + 0) = ⟨W.heap.size, j, none⟩ := by
      show (⟨W.heap.size, 0, none⟩ : Addr).add (j * 1 + 0) = _
      unfold Addr.add; split <;> simp_all
    rw [ha]
    rw [World.cell?_alloc_mark, hg]
  | i + 1, hi => simp at hi
set_option maxHeartbeats 8000000 in
set_option maxRecDepth 100000 in
theorem strakelaw01_awake.calls (k : Nat)  (r : Bool) (w : World) (h : strakelaw01_awake.f k  = some r) :
    Calls Try.prog 10 #[] w fun e w' => e = .returned (.bool r) ∧ Below w.heap.size w w' := by
  have kc := fun (w : World) (C : Array Value) (n c : Nat) => Lib.run_convert_bytes_const (P := Try.prog) w 22 5 C n c Try.underlying22 Try.underlying5
  obtain ⟨t106, A1, H⟩ := Option.bind_eq_some_iff.mp h
  obtain rfl := Option.some.inj H
  clear h H
  have A2 := Aside0.mk A1
  clear A1
  go_enter Try.func10, Try.ntmps10
  go_wp2_with (go_at_call 11; (refine (crc_Sum.calls k _ _ [49, 50, 51, 52, 53, 54, 55, 56, 57] t106 _ ?s1 ?s2 A2.out).mono ?_); (case s1 => exact C_lit w _ _ _ [49, 50, 51, 52, 53, 54, 55, 56, 57] rfl (by decide)); (case s2 => decide); rintro e w' ⟨rfl, ⟨nd, rfl⟩⟩)
  go_ret
  exact ⟨rfl, pw_below_drewN (below_alloc (Below.refl _ _) _) _⟩

/-! ### strakeref01_turned: function 15 -/
def strakeref01_turned.l0 : Nat → Int → Int → Int → Option (Int)
  | 0, _, _, _ => none
  | k + 1, x0, x3, x4 => if x4 < 32 then (if 0 ≤ x4 then (if (Go.bits .and .u32 (shr .u32 x0 x4) 1) = 1 then (if 0 ≤ (wrap64 (31 - x4)) then (strakeref01_turned.l0 k x0 (Go.bits .or .u32 x3 (shl .u32 1 (wrap64 (31 - x4)))) (wrap64 (x4 + 1))) else (none)) else (strakeref01_turned.l0 k x0 x3 (wrap64 (x4 + 1)))) else (none)) else (some x3)
def strakeref01_turned.f (k : Nat) (a0 : Int) : Option (Int) := strakeref01_turned.l0 k a0 0 0
theorem strakeref01_turned.mono_l : ∀ k, (∀ y0 y1 y2, LeO (strakeref01_turned.l0 k y0 y1 y2) (strakeref01_turned.l0 (k + 1) y0 y1 y2))
  | 0 => fun _ _ _ r h => by simp [strakeref01_turned.l0] at h
  | k + 1 => by
    have ih0 := strakeref01_turned.mono_l k
    · intro y0 y1 y2
      unfold strakeref01_turned.l0
      repeat' first
      | (with_reducible exact ih0 _ _ _)
      | (with_reducible exact LeO.refl _)
      | (with_reducible exact LeO.none _)
      | (with_reducible refine LeO.ite ?_ ?_)
      | (with_reducible refine LeO.bind ?_ (fun _ => ?_))
      | exact ih0 _ _ _
      | exact LeO.none _
      | refine LeO.ite ?_ ?_
      | refine LeO.bind ?_ (fun _ => ?_)
theorem strakeref01_turned.mono : ∀ a0 k, LeO (strakeref01_turned.f k a0) (strakeref01_turned.f (k + 1) a0) := by
  intro a0 k
  have ih0 := strakeref01_turned.mono_l k
  unfold strakeref01_turned.f
  repeat' first
      | (with_reducible exact ih0 _ _ _)
      | (with_reducible exact LeO.refl _)
      | (with_reducible exact LeO.none _)
      | (with_reducible refine LeO.ite ?_ ?_)
      | (with_reducible refine LeO.bind ?_ (fun _ => ?_))
      | exact ih0 _ _ _
      | exact LeO.none _
      | refine LeO.ite ?_ ?_
      | refine LeO.bind ?_ (fun _ => ?_)
set_option maxHeartbeats 8000000 in
set_option maxRecDepth 100000 in
theorem strakeref01_turned.calls (k : Nat) (a0 : Int) (r : Int) (w : World) (h : strakeref01_turned.f k a0 = some r) :
    Calls Try.prog 15 #[.int .u32 a0] w fun e w' => e = .returned (.int .u32 r) ∧ Drawn0 w w' := by
  have H : (strakeref01_turned.l0 k a0 0 0) = some r := h
  clear h
  have H' := Aside0.mk H
  clear H
  go_enter Try.func15, Try.ntmps15
  go_wp2
  go_loopg [3, 4] k (fun kq v3 v4 w' => ∃ (x3_1 : Int) (x4_1 : Int), v3 = .int .u32 x3_1 ∧ v4 = .int .i64 x4_1 ∧ Aside0 (strakeref01_turned.l0 kq a0 x3_1 x4_1 = some r) ∧ Aside0 (kq ≤ k) ∧ Drawn0 w w')
  case atStart => exact ⟨(0), (0), (by first | rfl | (simp; done) | (simp [*]; done)), (by first | rfl | (simp; done) | (simp [*]; done)), H', ⟨Nat.le_refl _⟩, by repeat (first | exact Drawn0.refl _ | apply Drawn0.step)⟩
  case round =>
    clear H'
    try clear c1
    obtain ⟨x3_1, x4_1, rfl, rfl, HA, HK1, ⟨m1, rfl⟩⟩ := hrel
    cases gk with
    | zero => exact absurd HA.out (by simp [strakeref01_turned.l0])
    | succ k1 =>
      have H := HA.out
      clear HA
      simp only [strakeref01_turned.l0] at H
      by_cases c2 : x4_1 < 32
      · rw [if_pos c2] at H
        have c2b0 : decide (x4_1 < 32) = true := decide_eq_true c2
        clear c2
        by_cases c3 : 0 ≤ x4_1
        · rw [if_pos c3] at H
          have c3b0 := eq_true c3
          have c3b1 : decide (0 ≤ x4_1) = true := decide_eq_true c3
          clear c3
          obtain ⟨ji4, hji4⟩ : ∃ j_ : Int, (shr .u32 a0 x4_1) = j_ := ⟨_, rfl⟩
          replace H : (if (Go.bits .and .u32 (ji4) 1) = 1 then (if 0 ≤ (wrap64 (31 - x4_1)) then (strakeref01_turned.l0 k1 a0 (Go.bits .or .u32 x3_1 (shl .u32 1 (wrap64 (31 - x4_1)))) (wrap64 (x4_1 + 1))) else (none)) else (strakeref01_turned.l0 k1 a0 x3_1 (wrap64 (x4_1 + 1)))) = some r := by first | (rw [hji4] at H; exact H) | (simp only [hji4] at H ⊢; exact H)
          have hji4_ : (a0 / 2 ^ min x4_1.toNat 32) = ji4 := hji4
          have hji4z : x4_1 ≤ 32 → (a0 / 2 ^ x4_1.toNat) = ji4 := shr_small hji4
          by_cases c5 : (Go.bits .and .u32 (ji4) 1) = 1
          · rw [if_pos c5] at H
            have c5b0 : ((Go.bits .and .u32 (ji4) 1) == 1) = true := beq_iff_eq.mpr c5
            have c5b1 : ((Go.bits .and .u32 (ji4) 1) != 1) = false := bne_eq_false_iff_eq.mpr c5
            clear c5
            obtain ⟨ji6, hji6⟩ : ∃ j_ : Int, (wrap64 (31 - x4_1)) = j_ := ⟨_, rfl⟩
            replace H : (if 0 ≤ (ji6) then (strakeref01_turned.l0 k1 a0 (Go.bits .or .u32 x3_1 (shl .u32 1 (ji6))) (wrap64 (x4_1 + 1))) else (none)) = some r := by first | (rw [hji6] at H; exact H) | (simp only [hji6] at H ⊢; exact H)
            have hji6w : (IntKind.i64.wrap (31 - x4_1)) = ji6 := (i64_w _).trans hji6
            by_cases c7 : 0 ≤ (ji6)
            · rw [if_pos c7] at H
              have c7b0 := eq_true c7
              have c7b1 : decide (0 ≤ (ji6)) = true := decide_eq_true c7
              clear c7
              obtain ⟨ji8, hji8⟩ : ∃ j_ : Int, (shl .u32 1 (ji6)) = j_ := ⟨_, rfl⟩
              replace H : (strakeref01_turned.l0 k1 a0 (Go.bits .or .u32 x3_1 (ji8)) (wrap64 (x4_1 + 1))) = some r := by first | (rw [hji8] at H; exact H) | (simp only [hji8] at H ⊢; exact H)
              have hji8_ : (IntKind.u32.wrap (1 * 2 ^ min (ji6).toNat 32)) = ji8 := hji8
              have hji8z : (ji6) ≤ 32 → (IntKind.u32.wrap (1 * 2 ^ (ji6).toNat)) = ji8 := shl_small hji8
              have hji8u : (IntKind.u32.wrap (2 ^ min (ji6).toNat 32)) = ji8 := by have h_ := hji8_; rw [Int.one_mul] at h_; exact h_
              have hji8v : (ji6) ≤ 32 → (IntKind.u32.wrap (2 ^ (ji6).toNat)) = ji8 := fun hle_ => by have h_ := hji8z hle_; rw [Int.one_mul] at h_; exact h_
              have H' := Aside0.mk H
              clear H
              go_wp2
              go_roundg k1
              case measure => have := HK1.out; omega
              case rel => exact ⟨(Go.bits .or .u32 x3_1 (ji8)), (wrap64 (x4_1 + 1)), (by first | rfl | (simp; done) | (simp only [← hji8] <;> (first | rfl | simp)) | (simp [*]; done)), (by first | rfl | (simp; done) | (simp [*]; done)), H', ⟨by have := HK1.out; omega⟩, by repeat (first | exact Drawn0.refl _ | apply Drawn0.step)⟩
            · rw [if_neg c7] at H
              exact absurd H (by simp)
          · rw [if_neg c5] at H
            have c5b0 : ((Go.bits .and .u32 (ji4) 1) == 1) = false := beq_eq_false_iff_ne.mpr c5
            have c5b1 : ((Go.bits .and .u32 (ji4) 1) != 1) = true := bne_iff_ne.mpr c5
            have H' := Aside0.mk H
            clear H
            go_wp2
            go_roundg k1
            case measure => have := HK1.out; omega
            case rel => exact ⟨(x3_1), (wrap64 (x4_1 + 1)), (by first | rfl | (simp; done) | (simp [*]; done)), (by first | rfl | (simp; done) | (simp [*]; done)), H', ⟨by have := HK1.out; omega⟩, by repeat (first | exact Drawn0.refl _ | apply Drawn0.step)⟩
        · rw [if_neg c3] at H
          exact absurd H (by simp)
      · rw [if_neg c2] at H
        have c2b0 : decide (x4_1 < 32) = false := decide_eq_false c2
        clear c2
        obtain rfl := Option.some.inj H
        go_wp2
        go_ret
        exact ⟨by first | rfl | (simp; done) | (simp [*]; done), by repeat (first | exact Drawn0.refl _ | apply Drawn0.step)⟩

/-! ### strakeref01_Add: function 14 -/
mutual
def strakeref01_Add.l0 : Nat → List Int → Int → Int → Option (Int)
  | 0, _, _, _ => none
  | k + 1, x1, x5, x6 => if x6 < (x1.length : Int) then (strakeref01_Add.l1 k x1 x5 x6 0) else ((strakeref01_turned.f k x5).bind fun t108 => (some (Go.bits .xor .u32 4294967295 t108)))
def strakeref01_Add.l1 : Nat → List Int → Int → Int → Int → Option (Int)
  | 0, _, _, _, _ => none
  | k + 1, x1, x5, x6, x7 => if x7 < 8 then (if 0 ≤ x6 then (if x6 < (x1.length : Int) then (if 0 ≤ x7 then (if (x5 / 2147483648) = ((Go.bits .and .u8 (shr .u8 (rd x1 x6) x7) 1) % 4294967296) then (strakeref01_Add.l1 k x1 ((x5 * 2) % 4294967296) x6 (wrap64 (x7 + 1))) else (strakeref01_Add.l1 k x1 (Go.bits .xor .u32 ((x5 * 2) % 4294967296) 79764919) x6 (wrap64 (x7 + 1)))) else (none)) else (none)) else (none)) else (strakeref01_Add.l0 k x1 x5 (wrap64 (x6 + 1)))
end
def strakeref01_Add.f (k : Nat) (a0 : Int) (l1 : List Int) : Option (Int) := (strakeref01_turned.f k (Go.bits .xor .u32 4294967295 a0)).bind fun t107 => (strakeref01_Add.l0 k l1 t107 0)
theorem strakeref01_Add.mono_l : ∀ k, (∀ y0 y1 y2, LeO (strakeref01_Add.l0 k y0 y1 y2) (strakeref01_Add.l0 (k + 1) y0 y1 y2)) ∧ (∀ y0 y1 y2 y3, LeO (strakeref01_Add.l1 k y0 y1 y2 y3) (strakeref01_Add.l1 (k + 1) y0 y1 y2 y3))
  | 0 => ⟨fun _ _ _ r h => by simp [strakeref01_Add.l0] at h, fun _ _ _ _ r h => by simp [strakeref01_Add.l1] at h⟩
  | k + 1 => by
    obtain ⟨ih0, ih1⟩ := strakeref01_Add.mono_l k
    refine ⟨?_, ?_⟩
    · intro y0 y1 y2
      unfold strakeref01_Add.l0
      repeat' first
      | (with_reducible exact ih0 _ _ _)
      | (with_reducible exact ih1 _ _ _ _)
      | (with_reducible exact strakeref01_turned.mono _ _)
      | (with_reducible exact LeO.refl _)
      | (with_reducible exact LeO.none _)
      | (with_reducible refine LeO.ite ?_ ?_)
      | (with_reducible refine LeO.bind ?_ (fun _ => ?_))
      | exact ih0 _ _ _
      | exact ih1 _ _ _ _
      | exact strakeref01_turned.mono _ _
      | exact LeO.none _
      | refine LeO.ite ?_ ?_
      | refine LeO.bind ?_ (fun _ => ?_)
    · intro y0 y1 y2 y3
      unfold strakeref01_Add.l1
      repeat' first
      | (with_reducible exact ih0 _ _ _)
      | (with_reducible exact ih1 _ _ _ _)
      | (with_reducible exact strakeref01_turned.mono _ _)
      | (with_reducible exact LeO.refl _)
      | (with_reducible exact LeO.none _)
      | (with_reducible refine LeO.ite ?_ ?_)
      | (with_reducible refine LeO.bind ?_ (fun _ => ?_))
      | exact ih0 _ _ _
      | exact ih1 _ _ _ _
      | exact strakeref01_turned.mono _ _
      | exact LeO.none _
      | refine LeO.ite ?_ ?_
      | refine LeO.bind ?_ (fun _ => ?_)
theorem strakeref01_Add.mono : ∀ a0 a1 k, LeO (strakeref01_Add.f k a0 a1) (strakeref01_Add.f (k + 1) a0 a1) := by
  intro a0 a1 k
  obtain ⟨ih0, ih1⟩ := strakeref01_Add.mono_l k
  unfold strakeref01_Add.f
  repeat' first
      | (with_reducible exact ih0 _ _ _)
      | (with_reducible exact ih1 _ _ _ _)
      | (with_reducible exact strakeref01_turned.mono _ _)
      | (with_reducible exact LeO.refl _)
      | (with_reducible exact LeO.none _)
      | (with_reducible refine LeO.ite ?_ ?_)
      | (with_reducible refine LeO.bind ?_ (fun _ => ?_))
      | exact ih0 _ _ _
      | exact ih1 _ _ _ _
      | exact strakeref01_turned.mono _ _
      | exact LeO.none _
      | refine LeO.ite ?_ ?_
      | refine LeO.bind ?_ (fun _ => ?_)
set_option maxHeartbeats 8000000 in
set_option maxRecDepth 100000 in
theorem strakeref01_Add.calls (k : Nat) (a0 : Int) (A1 : Option Addr) (c1 : Nat) (l1 : List Int) (r : Int) (w : World) (hr1 : Kd.C (Kd.int .u8) w A1 l1.length l1) (hc1 : l1.length ≤ c1) (h : strakeref01_Add.f k a0 l1 = some r) :
    Calls Try.prog 14 #[.int .u32 a0, .slice A1 l1.length c1] w fun e w' => e = .returned (.int .u32 r) ∧ Drawn0 w w' := by
  have HR1 := Aside0.mk hr1
  have HC1 := Aside0.mk hc1
  clear hr1 hc1
  have H : ((strakeref01_turned.f k (Go.bits .xor .u32 4294967295 a0)).bind fun t107 => (strakeref01_Add.l0 k l1 t107 0)) = some r := h
  clear h
  replace H := Option.bind_eq_some_iff.mp H
  obtain ⟨t107, A30, H⟩ := H
  replace H : (strakeref01_Add.l0 k l1 t107 0) = some r := H
  have A3 := Aside0.mk A30
  clear A30
  have H' := Aside0.mk H
  clear H
  go_enter Try.func14, Try.ntmps14
  go_wp2_with (first | ((with_reducible refine gate_callee (f := 15) rfl ?_); refine goesL_ (some 11) rfl rfl Try.func15 (by kernel_rfl) rfl #[.int .u32 (Go.bits .xor .u32 4294967295 a0)] rfl (by (try simp only [List.map_toArray, List.map_cons, List.map_nil]); first | done | rfl | (simp only [List.length_drop, List.length_take]; rfl)) ?_; (with_reducible refine (strakeref01_turned.calls k (Go.bits .xor .u32 4294967295 a0) t107 _ A3.out).mono ?_); rintro e w' ⟨rfl, ⟨nd, rfl⟩⟩; refine ⟨_, rfl, ?_⟩))
  go_loopg [5, 6] k (fun kq v5 v6 w' => ∃ (x5_1 : Int) (x6_1 : Int), v5 = .int .u32 x5_1 ∧ v6 = .int .i64 x6_1 ∧ Aside0 (strakeref01_Add.l0 kq l1 x5_1 x6_1 = some r) ∧ Aside0 (kq ≤ k) ∧ Drawn0 w w')
  case atStart => exact ⟨(t107), (0), (by first | rfl | (simp; done) | (simp [*]; done)), (by first | rfl | (simp; done) | (simp [*]; done)), H', ⟨Nat.le_refl _⟩, by repeat (first | exact Drawn0.refl _ | apply Drawn0.step)⟩
  case round =>
    clear H'
    try clear c1
    try clear p2
    obtain ⟨x5_1, x6_1, rfl, rfl, HA, HK1, ⟨m1, rfl⟩⟩ := hrel
    cases gk with
    | zero => exact absurd HA.out (by simp [strakeref01_Add.l0])
    | succ k1 =>
      have H := HA.out
      clear HA
      simp only [strakeref01_Add.l0] at H
      by_cases c4 : x6_1 < (l1.length : Int)
      · rw [if_pos c4] at H
        have c4b0 : decide (x6_1 < (l1.length : Int)) = true := decide_eq_true c4
        clear c4
        have H' := Aside0.mk H
        clear H
        go_wp2
        go_loopg [5, 7] k1 (fun kq v5 v7 w' => ∃ (x5_2 : Int) (x7_2 : Int), v5 = .int .u32 x5_2 ∧ v7 = .int .i64 x7_2 ∧ Aside0 (strakeref01_Add.l1 kq l1 x5_2 x6_1 x7_2 = some r) ∧ Aside0 (kq ≤ k1) ∧ Drawn0 w w')
        case atStart => exact ⟨(x5_1), (0), (by first | rfl | (simp; done) | (simp [*]; done)), (by first | rfl | (simp; done) | (simp [*]; done)), H', ⟨Nat.le_refl _⟩, by repeat (first | exact Drawn0.refl _ | apply Drawn0.step)⟩
        case round =>
          clear H'
          try clear c1
          try clear p2
          try clear c4
          try clear c4b0
          try clear p2
          obtain ⟨x5_2, x7_2, rfl, rfl, HA, HK2, ⟨m2, rfl⟩⟩ := hrel
          cases gk with
          | zero => exact absurd HA.out (by simp [strakeref01_Add.l1])
          | succ k2 =>
            have H := HA.out
            clear HA
            simp only [strakeref01_Add.l1] at H
            by_cases c5 : x7_2 < 8
            · rw [if_pos c5] at H
              have c5b0 : decide (x7_2 < 8) = true := decide_eq_true c5
              clear c5
              by_cases c6 : 0 ≤ x6_1
              · rw [if_pos c6] at H
                have c6b0 : decide (0 ≤ x6_1) = true := decide_eq_true c6
                clear c6
                by_cases c7 : x6_1 < (l1.length : Int)
                · rw [if_pos c7] at H
                  have c7b0 : decide (x6_1 < (l1.length : Int)) = true := decide_eq_true c7
                  clear c7
                  by_cases c8 : 0 ≤ x7_2
                  · rw [if_pos c8] at H
                    have c8b0 := eq_true c8
                    have c8b1 : decide (0 ≤ x7_2) = true := decide_eq_true c8
                    clear c8
                    obtain ⟨ji9, hji9⟩ : ∃ j_ : Int, (shr .u8 (rd l1 x6_1) x7_2) = j_ := ⟨_, rfl⟩
                    replace H : (if (x5_2 / 2147483648) = ((Go.bits .and .u8 (ji9) 1) % 4294967296) then (strakeref01_Add.l1 k2 l1 ((x5_2 * 2) % 4294967296) x6_1 (wrap64 (x7_2 + 1))) else (strakeref01_Add.l1 k2 l1 (Go.bits .xor .u32 ((x5_2 * 2) % 4294967296) 79764919) x6_1 (wrap64 (x7_2 + 1)))) = some r := by first | (rw [hji9] at H; exact H) | (simp only [hji9] at H ⊢; exact H)
                    have hji9_ : ((rd l1 x6_1) / 2 ^ min x7_2.toNat 8) = ji9 := hji9
                    have hji9z : x7_2 ≤ 8 → ((rd l1 x6_1) / 2 ^ x7_2.toNat) = ji9 := shr_small hji9
                    by_cases c10 : (x5_2 / 2147483648) = ((Go.bits .and .u8 (ji9) 1) % 4294967296)
                    · rw [if_pos c10] at H
                      have c10b0 : ((x5_2 / 2147483648) == ((Go.bits .and .u8 (ji9) 1) % 4294967296)) = true := beq_iff_eq.mpr c10
                      have c10b1 : ((x5_2 / 2147483648) != ((Go.bits .and .u8 (ji9) 1) % 4294967296)) = false := bne_eq_false_iff_eq.mpr c10
                      clear c10
                      have H' := Aside0.mk H
                      clear H
                      have p109 : 0 ≤ (x6_1 : Int) := of_decide_eq_true (by first | (with_reducible assumption) | assumption)
                      have q109 : x6_1 < (l1.length : Int) := of_decide_eq_true (by first | (with_reducible assumption) | assumption)
                      obtain ⟨ad109, e109, hx109_0⟩ := Kd.at_int HR1.out x6_1 p109 q109
                      cases e109
                      replace p109 := eq_true p109
                      replace q109 := eq_true q109
                      go_wp2
                      go_roundg k2
                      case measure => have := HK1.out; have := HK2.out; omega
                      case rel => exact ⟨((x5_2 * 2) % 4294967296), (wrap64 (x7_2 + 1)), (by first | rfl | (simp; done) | (simp [*]; done)), (by first | rfl | (simp; done) | (simp [*]; done)), H', ⟨by have := HK1.out; have := HK2.out; omega⟩, by repeat (first | exact Drawn0.refl _ | apply Drawn0.step)⟩
                    · rw [if_neg c10] at H
                      have c10b0 : ((x5_2 / 2147483648) == ((Go.bits .and .u8 (ji9) 1) % 4294967296)) = false := beq_eq_false_iff_ne.mpr c10
                      have c10b1 : ((x5_2 / 2147483648) != ((Go.bits .and .u8 (ji9) 1) % 4294967296)) = true := bne_iff_ne.mpr c10
                      have H' := Aside0.mk H
                      clear H
                      have p109 : 0 ≤ (x6_1 : Int) := of_decide_eq_true (by first | (with_reducible assumption) | assumption)
                      have q109 : x6_1 < (l1.length : Int) := of_decide_eq_true (by first | (with_reducible assumption) | assumption)
                      obtain ⟨ad109, e109, hx109_0⟩ := Kd.at_int HR1.out x6_1 p109 q109
                      cases e109
                      replace p109 := eq_true p109
                      replace q109 := eq_true q109
                      go_wp2
                      go_roundg k2
                      case measure => have := HK1.out; have := HK2.out; omega
                      case rel => exact ⟨(Go.bits .xor .u32 ((x5_2 * 2) % 4294967296) 79764919), (wrap64 (x7_2 + 1)), (by first | rfl | (simp; done) | (simp [*]; done)), (by first | rfl | (simp; done) | (simp [*]; done)), H', ⟨by have := HK1.out; have := HK2.out; omega⟩, by repeat (first | exact Drawn0.refl _ | apply Drawn0.step)⟩
                  · rw [if_neg c8] at H
                    exact absurd H (by simp)
                · rw [if_neg c7] at H
                  exact absurd H (by simp)
              · rw [if_neg c6] at H
                exact absurd H (by simp)
            · rw [if_neg c5] at H
              have c5b0 : decide (x7_2 < 8) = false := decide_eq_false c5
              clear c5
              have H' := Aside0.mk H
              clear H
              go_wp2
              go_roundg k2
              case measure => have := HK1.out; have := HK2.out; omega
              case rel => exact ⟨(x5_2), (wrap64 (x6_1 + 1)), (by first | rfl | (simp; done) | (simp [*]; done)), (by first | rfl | (simp; done) | (simp [*]; done)), H', ⟨by have := HK1.out; have := HK2.out; omega⟩, by repeat (first | exact Drawn0.refl _ | apply Drawn0.step)⟩
      · rw [if_neg c4] at H
        have c4b0 : decide (x6_1 < (l1.length : Int)) = false := decide_eq_false c4
        clear c4
        replace H := Option.bind_eq_some_iff.mp H
        obtain ⟨t108, A110, H⟩ := H
        replace H : (some (Go.bits .xor .u32 4294967295 t108)) = some r := H
        have A11 := Aside0.mk A110
        clear A110
        obtain rfl := Option.some.inj H
        go_wp2_with (first | ((with_reducible refine gate_callee (f := 15) rfl ?_); refine goesL_ (some 39) rfl rfl Try.func15 (by kernel_rfl) rfl #[.int .u32 x5_1] rfl (by (try simp only [List.map_toArray, List.map_cons, List.map_nil]); first | done | rfl | (simp only [List.length_drop, List.length_take]; rfl)) ?_; (with_reducible refine (strakeref01_turned.calls k1 x5_1 t108 _ A11.out).mono ?_); rintro e w' ⟨rfl, ⟨nd, rfl⟩⟩; refine ⟨_, rfl, ?_⟩))
        go_ret
        exact ⟨by first | rfl | (simp; done) | (simp [*]; done), by repeat (first | exact Drawn0.refl _ | apply Drawn0.step)⟩

/-! ### strakeref01_Sum: function 12 -/
def strakeref01_Sum.f (k : Nat) (l0 : List Int) : Option (Int) := (strakeref01_Add.f k 0 l0).bind fun t110 => (some t110)
theorem strakeref01_Sum.mono : ∀ a0 k, LeO (strakeref01_Sum.f k a0) (strakeref01_Sum.f (k + 1) a0) := by
  intro a0 k
  unfold strakeref01_Sum.f
  repeat' first
      | (with_reducible exact strakeref01_Add.mono _ _ _)
      | (with_reducible exact LeO.refl _)
      | (with_reducible exact LeO.none _)
      | (with_reducible refine LeO.ite ?_ ?_)
      | (with_reducible refine LeO.bind ?_ (fun _ => ?_))
      | exact strakeref01_Add.mono _ _ _
      | exact LeO.none _
      | refine LeO.ite ?_ ?_
      | refine LeO.bind ?_ (fun _ => ?_)
set_option maxHeartbeats 8000000 in
set_option maxRecDepth 100000 in
theorem strakeref01_Sum.calls (k : Nat) (A0 : Option Addr) (c0 : Nat) (l0 : List Int) (r : Int) (w : World) (hr0 : Kd.C (Kd.int .u8) w A0 l0.length l0) (hc0 : l0.length ≤ c0) (h : strakeref01_Sum.f k l0 = some r) :
    Calls Try.prog 12 #[.slice A0 l0.length c0] w fun e w' => e = .returned (.int .u32 r) ∧ Drawn0 w w' := by
  have HR0 := Aside0.mk hr0
  have HC0 := Aside0.mk hc0
  clear hr0 hc0
  have H : ((strakeref01_Add.f k 0 l0).bind fun t110 => (some t110)) = some r := h
  clear h
  replace H := Option.bind_eq_some_iff.mp H
  obtain ⟨t110, A20, H⟩ := H
  replace H : (some t110) = some r := H
  have A2 := Aside0.mk A20
  clear A20
  obtain rfl := Option.some.inj H
  go_enter Try.func12, Try.ntmps12
  go_wp2_with (first | ((with_reducible refine gate_callee (f := 14) rfl ?_); refine goesL_ (some 4) rfl rfl Try.func14 (by kernel_rfl) rfl #[.int .u32 0, .slice A0 l0.length c0] rfl (by (try simp only [List.map_toArray, List.map_cons, List.map_nil]); first | done | rfl | (simp only [List.length_drop, List.length_take]; rfl)) ?_; (with_reducible refine (strakeref01_Add.calls k 0 _ _ l0 t110 _ ?side1 ?side2 A2.out).mono ?_); (case side1 => repeat (first | exact HR0.out | (with_reducible refine Kd.C_alloc ?_ _) | (with_reducible refine Kd.C_drewN ?_ _) | (with_reducible refine Kd.C_drew ?_))); (case side2 => exact HC0.out); rintro e w' ⟨rfl, ⟨nd, rfl⟩⟩; refine ⟨_, rfl, ?_⟩))
  go_ret
  exact ⟨by first | rfl | (simp; done) | (simp [*]; done), by repeat (first | exact Drawn0.refl _ | apply Drawn0.step)⟩

/-! ### strakelaw01_CrcSums: function 3 -/
def strakelaw01_CrcSums.f (k : Nat) (l0 : List Int) : Option (Bool) := (strakelaw01_awake.f k).bind fun t111 => (if (l0.length : Int) > 20000 then (some t111) else (if t111 = true then ((crc_Sum.f k l0).bind fun t112 => ((strakeref01_Sum.f k l0).bind fun t113 => (some (t112 == t113)))) else (some false)))
theorem strakelaw01_CrcSums.mono : ∀ a0 k, LeO (strakelaw01_CrcSums.f k a0) (strakelaw01_CrcSums.f (k + 1) a0) := by
  intro a0 k
  unfold strakelaw01_CrcSums.f
  repeat' first
      | (with_reducible exact crc_Sum.mono _ _)
      | (with_reducible exact strakelaw01_awake.mono _)
      | (with_reducible exact strakeref01_Sum.mono _ _)
      | (with_reducible exact LeO.refl _)
      | (with_reducible exact LeO.none _)
      | (with_reducible refine LeO.ite ?_ ?_)
      | (with_reducible refine LeO.bind ?_ (fun _ => ?_))
      | exact crc_Sum.mono _ _
      | exact strakelaw01_awake.mono _
      | exact strakeref01_Sum.mono _ _
      | exact LeO.none _
      | refine LeO.ite ?_ ?_
      | refine LeO.bind ?_ (fun _ => ?_)
set_option maxHeartbeats 8000000 in
set_option maxRecDepth 100000 in
theorem strakelaw01_CrcSums.calls (k : Nat) (A0 : Option Addr) (c0 : Nat) (l0 : List Int) (r : Bool) (w : World) (hr0 : Kd.C (Kd.int .u8) w A0 l0.length l0) (hc0 : l0.length ≤ c0) (h : strakelaw01_CrcSums.f k l0 = some r) :
    Calls Try.prog 3 #[.slice A0 l0.length c0] w fun e w' => e = .returned (.bool r) ∧ Below w.heap.size w w' := by
  have HR0 := Aside0.mk hr0
  have HC0 := Aside0.mk hc0
  clear hr0 hc0
  have HB := Aside0.mk (Below.refl w.heap.size w)
  have H : ((strakelaw01_awake.f k).bind fun t111 => (if (l0.length : Int) > 20000 then (some t111) else (if t111 = true then ((crc_Sum.f k l0).bind fun t112 => ((strakeref01_Sum.f k l0).bind fun t113 => (some (t112 == t113)))) else (some false)))) = some r := h
  clear h
  replace H := Option.bind_eq_some_iff.mp H
  obtain ⟨t111, A20, H⟩ := H
  replace H : (if (l0.length : Int) > 20000 then (some t111) else (if t111 = true then ((crc_Sum.f k l0).bind fun t112 => ((strakeref01_Sum.f k l0).bind fun t113 => (some (t112 == t113)))) else (some false))) = some r := H
  have A2 := Aside0.mk A20
  clear A20
  by_cases c3 : (l0.length : Int) > 20000
  · rw [if_pos c3] at H
    have c3b0 : decide (20000 < (l0.length : Int)) = true := decide_eq_true c3
    have c3b1 : decide (20000 < l0.length) = true := decide_eq_true (by omega)
    clear c3
    obtain rfl := Option.some.inj H
    go_enter Try.func3, Try.ntmps3
    go_wp2_with (first | ((with_reducible refine gate_callee (f := 10) rfl ?_); refine goesL_ (some 4) rfl rfl Try.func10 (by kernel_rfl) rfl #[] rfl (by (try simp only [List.map_toArray, List.map_cons, List.map_nil]); first | done | rfl | (simp only [List.length_drop, List.length_take]; rfl)) ?_; (with_reducible refine (strakelaw01_awake.calls k  t111 _ A2.out).mono ?_); rintro e w4 ⟨rfl, hb⟩; refine ⟨_, rfl, ?_⟩; have n0_ := Aside0.mk (below_step (by repeat (first | (with_reducible first | exact HB.out | apply below_alloc | apply pw_below_drewN | apply below_drew1) | exact HB.out)) hb); clear HB; have HB := n0_; clear n0_; (try clear hb); (try clear hb2); (try clear hk); (try clear hi)))
    go_ret
    exact ⟨by first | rfl | (simp [errW_none, errW_some] <;> rfl) | (simp [*, errW_none, errW_some] <;> rfl), by repeat (first | (with_reducible first | exact HB.out | apply below_alloc | apply pw_below_drewN | apply below_drew1) | exact HB.out)⟩
  · rw [if_neg c3] at H
    have c3b0 : decide (20000 < (l0.length : Int)) = false := decide_eq_false c3
    have c3b1 : decide (20000 < l0.length) = false := decide_eq_false (by omega)
    clear c3
    by_cases c5 : t111 = true
    · subst c5
      have H1 : ((crc_Sum.f k l0).bind fun t112 => ((strakeref01_Sum.f k l0).bind fun t113 => (some (t112 == t113)))) = some r := by rw [if_pos rfl] at H; exact H
      clear H
      have H := H1
      clear H1
      replace H := Option.bind_eq_some_iff.mp H
      obtain ⟨t112, A60, H⟩ := H
      replace H : ((strakeref01_Sum.f k l0).bind fun t113 => (some (t112 == t113))) = some r := H
      have A6 := Aside0.mk A60
      clear A60
      replace H := Option.bind_eq_some_iff.mp H
      obtain ⟨t113, A70, H⟩ := H
      replace H : (some (t112 == t113)) = some r := H
      have A7 := Aside0.mk A70
      clear A70
      obtain rfl := Option.some.inj H
      go_enter Try.func3, Try.ntmps3
      go_wp2_with (first | ((with_reducible refine gate_callee (f := 10) rfl ?_); refine goesL_ (some 4) rfl rfl Try.func10 (by kernel_rfl) rfl #[] rfl (by (try simp only [List.map_toArray, List.map_cons, List.map_nil]); first | done | rfl | (simp only [List.length_drop, List.length_take]; rfl)) ?_; (with_reducible refine (strakelaw01_awake.calls k  true _ A2.out).mono ?_); rintro e w8 ⟨rfl, hb⟩; refine ⟨_, rfl, ?_⟩; have n0_ := Aside0.mk (below_step (by repeat (first | (with_reducible first | exact HB.out | apply below_alloc | apply pw_below_drewN | apply below_drew1) | exact HB.out)) hb); clear HB; have HB := n0_; clear n0_; (try clear hb); (try clear hb2); (try clear hk); (try clear hi)) | (go_at_call 11; (with_reducible refine (crc_Sum.calls k _ _ l0 t112 _ ?side1 ?side2 A6.out).mono ?_); (case side1 => repeat (first | exact (Kd.C_below HR0.out HB.out) | (with_reducible refine Kd.C_alloc ?_ _) | (with_reducible refine Kd.C_drewN ?_ _) | (with_reducible refine Kd.C_drew ?_))); (case side2 => exact HC0.out); rintro e w' ⟨rfl, ⟨nd, rfl⟩⟩) | (go_at_call 12; (with_reducible refine (strakeref01_Sum.calls k _ _ l0 t113 _ ?side1 ?side2 A7.out).mono ?_); (case side1 => repeat (first | exact (Kd.C_below HR0.out (by repeat (first | (with_reducible first | exact HB.out | apply below_alloc | apply pw_below_drewN | apply below_drew1) | exact HB.out))) | (with_reducible refine Kd.C_alloc ?_ _) | (with_reducible refine Kd.C_drewN ?_ _) | (with_reducible refine Kd.C_drew ?_))); (case side2 => exact HC0.out); rintro e w' ⟨rfl, ⟨nd, rfl⟩⟩))
      go_ret
      exact ⟨by first | rfl | (simp [errW_none, errW_some] <;> rfl) | (simp [*, errW_none, errW_some] <;> rfl), by repeat (first | (with_reducible first | exact HB.out | apply below_alloc | apply pw_below_drewN | apply below_drew1) | exact HB.out)⟩
    · replace c5 := Bool.eq_false_iff.mpr c5
      subst c5
      have H1 : (some false) = some r := by rw [if_neg (show ¬ (false = true) by decide)] at H; exact H
      clear H
      have H := H1
      clear H1
      obtain rfl := Option.some.inj H
      go_enter Try.func3, Try.ntmps3
      go_wp2_with (first | ((with_reducible refine gate_callee (f := 10) rfl ?_); refine goesL_ (some 4) rfl rfl Try.func10 (by kernel_rfl) rfl #[] rfl (by (try simp only [List.map_toArray, List.map_cons, List.map_nil]); first | done | rfl | (simp only [List.length_drop, List.length_take]; rfl)) ?_; (with_reducible refine (strakelaw01_awake.calls k  false _ A2.out).mono ?_); rintro e w9 ⟨rfl, hb⟩; refine ⟨_, rfl, ?_⟩; have n0_ := Aside0.mk (below_step (by repeat (first | (with_reducible first | exact HB.out | apply below_alloc | apply pw_below_drewN | apply below_drew1) | exact HB.out)) hb); clear HB; have HB := n0_; clear n0_; (try clear hb); (try clear hb2); (try clear hk); (try clear hi)))
      go_ret
      exact ⟨by first | rfl | (simp [errW_none, errW_some] <;> rfl) | (simp [*, errW_none, errW_some] <;> rfl), by repeat (first | (with_reducible first | exact HB.out | apply below_alloc | apply pw_below_drewN | apply below_drew1) | exact HB.out)⟩

/-- THE ONE PURE STATEMENT of strakelaw01_CrcSums: yours. -/
def strakelaw01_CrcSums.Pure : Prop := ∀ (l0 : List Int), l0.length ≤ maxLen → l0.length * 1 ≤ 140737488351232 → (∀ x ∈ l0, (Lit.int .u8 x).wf = true) → ∃ k, strakelaw01_CrcSums.f k l0 = some true
theorem strakelaw01_CrcSums.walk (P : strakelaw01_CrcSums.Pure) (a0 : Option Addr) (len0 cap0 : Nat) (z0 : List Int) (w : World) (w0 : (a0 = none ∧ len0 = 0 ∧ cap0 = 0 ∧ z0 = []) ∨ ∃ x, a0 = some x ∧ len0 ≤ cap0 ∧ cap0 ≤ maxLen ∧ z0.length = cap0 ∧ (∀ i, i < z0.length → w.cell? (x.add i) = some (.int .u8 (z0.getD i 0))) ∧ ∀ n ∈ z0, (Lit.int .u8 n).wf = true) (y0 : len0 * 1 ≤ 140737488351232) :
    Calls Try.prog 3 #[.slice a0 len0 cap0] w fun e w' => e = .returned (.bool true) ∧ Below w.heap.size w w' := by
  obtain ⟨l0, rfl, hr0, hm0, hw0, hc0⟩ := ReadsInt.ofRowC w0
  obtain ⟨k, h⟩ := P l0 hm0 y0 hw0
  refine (strakelaw01_CrcSums.calls k _ _ l0 true w (Kd.C_of_reads (d := (0 : Int)) (h1 := fun _ => rfl) hr0) hc0 h).mono ?_
  rintro e w' ⟨rfl, hd⟩
  exact ⟨rfl, hd⟩

/-! ### strakelaw01_CrcAdds: function 4 -/
def strakelaw01_CrcAdds.f (k : Nat) (a0 : Int) (l1 : List Int) : Option (Bool) := (strakelaw01_awake.f k).bind fun t114 => (if (l1.length : Int) > 20000 then (some t114) else (if t114 = true then ((crc_Add.f k a0 l1).bind fun t115 => ((strakeref01_Add.f k a0 l1).bind fun t116 => (some (t115 == t116)))) else (some false)))
theorem strakelaw01_CrcAdds.mono : ∀ a0 a1 k, LeO (strakelaw01_CrcAdds.f k a0 a1) (strakelaw01_CrcAdds.f (k + 1) a0 a1) := by
  intro a0 a1 k
  unfold strakelaw01_CrcAdds.f
  repeat' first
      | (with_reducible exact crc_Add.mono _ _ _)
      | (with_reducible exact strakelaw01_awake.mono _)
      | (with_reducible exact strakeref01_Add.mono _ _ _)
      | (with_reducible exact LeO.refl _)
      | (with_reducible exact LeO.none _)
      | (with_reducible refine LeO.ite ?_ ?_)
      | (with_reducible refine LeO.bind ?_ (fun _ => ?_))
      | exact crc_Add.mono _ _ _
      | exact strakelaw01_awake.mono _
      | exact strakeref01_Add.mono _ _ _
      | exact LeO.none _
      | refine LeO.ite ?_ ?_
      | refine LeO.bind ?_ (fun _ => ?_)
set_option maxHeartbeats 8000000 in
set_option maxRecDepth 100000 in
theorem strakelaw01_CrcAdds.calls (k : Nat) (a0 : Int) (A1 : Option Addr) (c1 : Nat) (l1 : List Int) (r : Bool) (w : World) (hr1 : Kd.C (Kd.int .u8) w A1 l1.length l1) (hc1 : l1.length ≤ c1) (h : strakelaw01_CrcAdds.f k a0 l1 = some r) :
    Calls Try.prog 4 #[.int .u32 a0, .slice A1 l1.length c1] w fun e w' => e = .returned (.bool r) ∧ Below w.heap.size w w' := by
  have HR1 := Aside0.mk hr1
  have HC1 := Aside0.mk hc1
  clear hr1 hc1
  have HB := Aside0.mk (Below.refl w.heap.size w)
  have H : ((strakelaw01_awake.f k).bind fun t114 => (if (l1.length : Int) > 20000 then (some t114) else (if t114 = true then ((crc_Add.f k a0 l1).bind fun t115 => ((strakeref01_Add.f k a0 l1).bind fun t116 => (some (t115 == t116)))) else (some false)))) = some r := h
  clear h
  replace H := Option.bind_eq_some_iff.mp H
  obtain ⟨t114, A30, H⟩ := H
  replace H : (if (l1.length : Int) > 20000 then (some t114) else (if t114 = true then ((crc_Add.f k a0 l1).bind fun t115 => ((strakeref01_Add.f k a0 l1).bind fun t116 => (some (t115 == t116)))) else (some false))) = some r := H
  have A3 := Aside0.mk A30
  clear A30
  by_cases c4 : (l1.length : Int) > 20000
  · rw [if_pos c4] at H
    have c4b0 : decide (20000 < (l1.length : Int)) = true := decide_eq_true c4
    have c4b1 : decide (20000 < l1.length) = true := decide_eq_true (by omega)
    clear c4
    obtain rfl := Option.some.inj H
    go_enter Try.func4, Try.ntmps4
    go_wp2_with (first | ((with_reducible refine gate_callee (f := 10) rfl ?_); refine goesL_ (some 6) rfl rfl Try.func10 (by kernel_rfl) rfl #[] rfl (by (try simp only [List.map_toArray, List.map_cons, List.map_nil]); first | done | rfl | (simp only [List.length_drop, List.length_take]; rfl)) ?_; (with_reducible refine (strakelaw01_awake.calls k  t114 _ A3.out).mono ?_); rintro e w5 ⟨rfl, hb⟩; refine ⟨_, rfl, ?_⟩; have n0_ := Aside0.mk (below_step (by repeat (first | (with_reducible first | exact HB.out | apply below_alloc | apply pw_below_drewN | apply below_drew1) | exact HB.out)) hb); clear HB; have HB := n0_; clear n0_; (try clear hb); (try clear hb2); (try clear hk); (try clear hi)))
    go_ret
    exact ⟨by first | rfl | (simp [errW_none, errW_some] <;> rfl) | (simp [*, errW_none, errW_some] <;> rfl), by repeat (first | (with_reducible first | exact HB.out | apply below_alloc | apply pw_below_drewN | apply below_drew1) | exact HB.out)⟩
  · rw [if_neg c4] at H
    have c4b0 : decide (20000 < (l1.length : Int)) = false := decide_eq_false c4
    have c4b1 : decide (20000 < l1.length) = false := decide_eq_false (by omega)
    clear c4
    by_cases c6 : t114 = true
    · subst c6
      have H1 : ((crc_Add.f k a0 l1).bind fun t115 => ((strakeref01_Add.f k a0 l1).bind fun t116 => (some (t115 == t116)))) = some r := by rw [if_pos rfl] at H; exact H
      clear H
      have H := H1
      clear H1
      replace H := Option.bind_eq_some_iff.mp H
      obtain ⟨t115, A70, H⟩ := H
      replace H : ((strakeref01_Add.f k a0 l1).bind fun t116 => (some (t115 == t116))) = some r := H
      have A7 := Aside0.mk A70
      clear A70
      replace H := Option.bind_eq_some_iff.mp H
      obtain ⟨t116, A80, H⟩ := H
      replace H : (some (t115 == t116)) = some r := H
      have A8 := Aside0.mk A80
      clear A80
      obtain rfl := Option.some.inj H
      go_enter Try.func4, Try.ntmps4
      go_wp2_with (first | ((with_reducible refine gate_callee (f := 10) rfl ?_); refine goesL_ (some 6) rfl rfl Try.func10 (by kernel_rfl) rfl #[] rfl (by (try simp only [List.map_toArray, List.map_cons, List.map_nil]); first | done | rfl | (simp only [List.length_drop, List.length_take]; rfl)) ?_; (with_reducible refine (strakelaw01_awake.calls k  true _ A3.out).mono ?_); rintro e w9 ⟨rfl, hb⟩; refine ⟨_, rfl, ?_⟩; have n0_ := Aside0.mk (below_step (by repeat (first | (with_reducible first | exact HB.out | apply below_alloc | apply pw_below_drewN | apply below_drew1) | exact HB.out)) hb); clear HB; have HB := n0_; clear n0_; (try clear hb); (try clear hb2); (try clear hk); (try clear hi)) | (go_at_call 13; (with_reducible refine (crc_Add.calls k a0 _ _ l1 t115 _ ?side1 ?side2 A7.out).mono ?_); (case side1 => repeat (first | exact (Kd.C_below HR1.out HB.out) | (with_reducible refine Kd.C_alloc ?_ _) | (with_reducible refine Kd.C_drewN ?_ _) | (with_reducible refine Kd.C_drew ?_))); (case side2 => exact HC1.out); rintro e w' ⟨rfl, ⟨nd, rfl⟩⟩) | (go_at_call 14; (with_reducible refine (strakeref01_Add.calls k a0 _ _ l1 t116 _ ?side1 ?side2 A8.out).mono ?_); (case side1 => repeat (first | exact (Kd.C_below HR1.out (by repeat (first | (with_reducible first | exact HB.out | apply below_alloc | apply pw_below_drewN | apply below_drew1) | exact HB.out))) | (with_reducible refine Kd.C_alloc ?_ _) | (with_reducible refine Kd.C_drewN ?_ _) | (with_reducible refine Kd.C_drew ?_))); (case side2 => exact HC1.out); rintro e w' ⟨rfl, ⟨nd, rfl⟩⟩))
      go_ret
      exact ⟨by first | rfl | (simp [errW_none, errW_some] <;> rfl) | (simp [*, errW_none, errW_some] <;> rfl), by repeat (first | (with_reducible first | exact HB.out | apply below_alloc | apply pw_below_drewN | apply below_drew1) | exact HB.out)⟩
    · replace c6 := Bool.eq_false_iff.mpr c6
      subst c6
      have H1 : (some false) = some r := by rw [if_neg (show ¬ (false = true) by decide)] at H; exact H
      clear H
      have H := H1
      clear H1
      obtain rfl := Option.some.inj H
      go_enter Try.func4, Try.ntmps4
      go_wp2_with (first | ((with_reducible refine gate_callee (f := 10) rfl ?_); refine goesL_ (some 6) rfl rfl Try.func10 (by kernel_rfl) rfl #[] rfl (by (try simp only [List.map_toArray, List.map_cons, List.map_nil]); first | done | rfl | (simp only [List.length_drop, List.length_take]; rfl)) ?_; (with_reducible refine (strakelaw01_awake.calls k  false _ A3.out).mono ?_); rintro e w10 ⟨rfl, hb⟩; refine ⟨_, rfl, ?_⟩; have n0_ := Aside0.mk (below_step (by repeat (first | (with_reducible first | exact HB.out | apply below_alloc | apply pw_below_drewN | apply below_drew1) | exact HB.out)) hb); clear HB; have HB := n0_; clear n0_; (try clear hb); (try clear hb2); (try clear hk); (try clear hi)))
      go_ret
      exact ⟨by first | rfl | (simp [errW_none, errW_some] <;> rfl) | (simp [*, errW_none, errW_some] <;> rfl), by repeat (first | (with_reducible first | exact HB.out | apply below_alloc | apply pw_below_drewN | apply below_drew1) | exact HB.out)⟩

/-- THE ONE PURE STATEMENT of strakelaw01_CrcAdds: yours. -/
def strakelaw01_CrcAdds.Pure : Prop := ∀ (a0 : Int) (l1 : List Int), (Lit.int .u32 a0).wf = true → l1.length ≤ maxLen → l1.length * 1 ≤ 140737488351232 → (∀ x ∈ l1, (Lit.int .u8 x).wf = true) → ∃ k, strakelaw01_CrcAdds.f k a0 l1 = some true
theorem strakelaw01_CrcAdds.walk (P : strakelaw01_CrcAdds.Pure) (a0 : Int) (a1 : Option Addr) (len1 cap1 : Nat) (z1 : List Int) (w : World) (w0 : (Lit.int .u32 a0).wf = true) (w1 : (a1 = none ∧ len1 = 0 ∧ cap1 = 0 ∧ z1 = []) ∨ ∃ x, a1 = some x ∧ len1 ≤ cap1 ∧ cap1 ≤ maxLen ∧ z1.length = cap1 ∧ (∀ i, i < z1.length → w.cell? (x.add i) = some (.int .u8 (z1.getD i 0))) ∧ ∀ n ∈ z1, (Lit.int .u8 n).wf = true) (y1 : len1 * 1 ≤ 140737488351232) :
    Calls Try.prog 4 #[.int .u32 a0, .slice a1 len1 cap1] w fun e w' => e = .returned (.bool true) ∧ Below w.heap.size w w' := by
  obtain ⟨l1, rfl, hr1, hm1, hw1, hc1⟩ := ReadsInt.ofRowC w1
  obtain ⟨k, h⟩ := P a0 l1 w0 hm1 y1 hw1
  refine (strakelaw01_CrcAdds.calls k a0 _ _ l1 true w (Kd.C_of_reads (d := (0 : Int)) (h1 := fun _ => rfl) hr1) hc1 h).mono ?_
  rintro e w' ⟨rfl, hd⟩
  exact ⟨rfl, hd⟩

end Go.Proofs.Ytlciniiiijfbmaa.X
