import Derived.Test.YthoebkkohdfgeaaX1
import Derived.Test.YthoebkkohdfgeaaX13
import Derived.Test.YthoebkkohdfgeaaX16
import Derived.Test.YthoebkkohdfgeaaTwo
import Derived.StillTailTactics
namespace Go.Proofs.Ythoebkkohdfgeaa.X
open Go.RowKit Go.Proofs.YthoebkkohdfgeaaW.PrintWords Go.Proofs.YthoebkkohdfgeaaW.PrintLast Go.Proofs.YthoebkkohdfgeaaW.PrintMore
attribute [local go_sem] max2_int min2_int max_two min_two max_three min_three max_four min_four
set_option linter.unusedVariables false
set_option linter.unusedSimpArgs false
def turnedRow (y : List Int) (j v : Int) : List Int := y.set j.toNat (Go.bits .xor .u8 (rd y j) (v % 256))
def turnedD (d : List (List Int)) (a j v : Int) : List (List Int) := if j < 16 then d.set a.toNat (turnedRow (rd_L2 d a) j v) else d
def turnedB (b : List (List Int)) (a j v : Int) : List (List Int) := if j < 16 then b else b.set a.toNat (turnedRow (rd_L2 b a) (j - 16) v)
def wantOf (a : Int) (i : Nat) : Nat := if a ≤ (i : Int) then i + 1 else i
set_option maxHeartbeats 8000000 in
set_option maxRecDepth 100000 in
theorem turned.calls (k : Nat) (a0 x0 x1 x2 : Int) (A1 : Option Addr) (c1 : Nat) (l1 : List S38) (ts : Bool) (w : World) (hr1 : Kd.C k38 w A1 l1.length l1) (hc1 : l1.length ≤ c1) (hA : strakelaw15_awake.f k = some true) (hS : strakelaw15_slim.f k l1 = some ts)
    (hrest : ts = true → ¬ x0 < 0 → ¬ x1 < 0 → ¬ x2 % 256 = 0 → ∃ (d b : List (List Int)) (e : Int), page_Build.f k a0 l1 = some (d, b, e) ∧ (e = 0 → (d.length : Int) = a0 ∧ (b.length : Int) = a0 ∧ 0 < l1.length ∧ l1.length ≤ d.length ∧ a0 ≤ 4 ∧ (rd_L2 d (Int.tmod x0 l1.length)).length = 16 ∧ (rd_L2 b (Int.tmod x0 l1.length)).length = 17 ∧
      ∃ l : List S42, page_Read.f k (turnedD d (Int.tmod x0 l1.length) (Int.tmod x1 33) x2) (turnedB b (Int.tmod x0 l1.length) (Int.tmod x1 33) x2) = some l ∧ l.length + 1 = l1.length ∧ ∀ i : Nat, i < l.length → (rd_T42 l (i : Int)).f0 = (wantOf (Int.tmod x0 l1.length) i : Int) ∧ (rd_T42 l (i : Int)).f1.f1 = (rd_T38 l1 (wantOf (Int.tmod x0 l1.length) i : Int)).f1 ∧ (rd_T42 l (i : Int)).f1.f2 = (rd_T38 l1 (wantOf (Int.tmod x0 l1.length) i : Int)).f2)) :
    Calls Try.prog 6 #[.int .i64 a0, .slice A1 l1.length c1, .agg #[.int .i64 x0, .int .i64 x1, .int .i64 x2]] w fun e w' => e = .returned (.bool true) ∧ Below w.heap.size w w' := by
  have hu38 := Try.underlying38
  have hu40 := Try.underlying40
  have hu43 := Try.underlying43
  have HR1 := Aside0.mk hr1
  have HC1 := Aside0.mk hc1
  have A3 := Aside0.mk hA
  have A4 := Aside0.mk hS
  have HX := Aside0.mk hrest
  clear hr1 hc1 hA hS hrest
  have HB := Aside0.mk (Below.refl w.heap.size w)
  cases ts with
  | false =>
    clear HX
    go_enter Try.func6, Try.ntmps6
    go_wp2_with (first
        | ((with_reducible refine gate_dst (N := 5) rfl ?_); (try (refine gate_guard (by rfl) ?_; dsimp only)); refine box_event ?hg (N := 5) ?hd (cs := #[.int .i64 x0, .int .i64 x1, .int .i64 x2]) (t := 43) ?hr ?_; (case hd => rfl); (case hg => rfl); (case hr => first | (go_simp; done) | (go_simp; rfl)); intro g5 hg w5 hbox hb; have n2_ := Aside0.mk (below_step HB.out hb); have BK5 := Aside0.mk hbox; have GE5 := Aside0.mk ((by rw [hg]; exact below_size HB.out) : w.heap.size ≤ g5); clear HB; have HB := n2_; clear n2_ hb hbox hg)
        | (go_at_call 9; (with_reducible refine (strakelaw15_awake.calls k true _ A3.out).mono ?_); rintro e w10 ⟨rfl, hb⟩; have n0_ := Aside0.mk (below_step HB.out hb); have n1_ := Aside0.mk (blk_below (g := g5) BK5.out hb); clear HB BK5; have HB := n0_; have BK5 := n1_; clear n0_ n1_ hb)
        | (go_at_call 10; (with_reducible refine (strakelaw15_slim.calls k _ _ l1 false _ ?side1 ?side2 A4.out).mono ?_); (case side1 => exact Kd.C_below HR1.out HB.out); (case side2 => exact HC1.out); rintro e w11 ⟨rfl, ⟨nd, hw⟩⟩; have n0_ := Aside0.mk (show Below w.heap.size w w11 from by rw [hw]; exact pw_below_drewN HB.out nd); have n1_ := Aside0.mk (show w11.heap[g5]? = some (.cells #[.int .i64 x0, .int .i64 x1, .int .i64 x2] 43 (0, 0)) from by rw [hw]; exact blk_drewN BK5.out nd); clear HB BK5 hw; have HB := n0_; have BK5 := n1_; clear n0_ n1_; have hz0 : w11.cell? ⟨g5, 0, none⟩ = some (.int .i64 x0) := (blk_cell BK5.out 0).trans rfl; have hz1 : w11.cell? ⟨g5, 1, none⟩ = some (.int .i64 x1) := (blk_cell BK5.out 1).trans rfl; have hz2 : w11.cell? ⟨g5, 2, none⟩ = some (.int .i64 x2) := (blk_cell BK5.out 2).trans rfl))
    go_ret
    exact ⟨rfl, (by repeat (first | (with_reducible first | exact HB.out | apply below_alloc | apply pw_below_drewN | apply below_drew1) | exact HB.out))⟩
  | true =>
    by_cases c1 : x0 < 0
    · have c1b : decide (x0 < 0) = true := decide_eq_true c1
      clear HX c1
      go_enter Try.func6, Try.ntmps6
      go_wp2_with (first
          | ((with_reducible refine gate_dst (N := 5) rfl ?_); (try (refine gate_guard (by rfl) ?_; dsimp only)); refine box_event ?hg (N := 5) ?hd (cs := #[.int .i64 x0, .int .i64 x1, .int .i64 x2]) (t := 43) ?hr ?_; (case hd => rfl); (case hg => rfl); (case hr => first | (go_simp; done) | (go_simp; rfl)); intro g5 hg w5 hbox hb; have n2_ := Aside0.mk (below_step HB.out hb); have BK5 := Aside0.mk hbox; have GE5 := Aside0.mk ((by rw [hg]; exact below_size HB.out) : w.heap.size ≤ g5); clear HB; have HB := n2_; clear n2_ hb hbox hg)
          | (go_at_call 9; (with_reducible refine (strakelaw15_awake.calls k true _ A3.out).mono ?_); rintro e w10 ⟨rfl, hb⟩; have n0_ := Aside0.mk (below_step HB.out hb); have n1_ := Aside0.mk (blk_below (g := g5) BK5.out hb); clear HB BK5; have HB := n0_; have BK5 := n1_; clear n0_ n1_ hb)
          | (go_at_call 10; (with_reducible refine (strakelaw15_slim.calls k _ _ l1 true _ ?side1 ?side2 A4.out).mono ?_); (case side1 => exact Kd.C_below HR1.out HB.out); (case side2 => exact HC1.out); rintro e w11 ⟨rfl, ⟨nd, hw⟩⟩; have n0_ := Aside0.mk (show Below w.heap.size w w11 from by rw [hw]; exact pw_below_drewN HB.out nd); have n1_ := Aside0.mk (show w11.heap[g5]? = some (.cells #[.int .i64 x0, .int .i64 x1, .int .i64 x2] 43 (0, 0)) from by rw [hw]; exact blk_drewN BK5.out nd); clear HB BK5 hw; have HB := n0_; have BK5 := n1_; clear n0_ n1_; have hz0 : w11.cell? ⟨g5, 0, none⟩ = some (.int .i64 x0) := (blk_cell BK5.out 0).trans rfl; have hz1 : w11.cell? ⟨g5, 1, none⟩ = some (.int .i64 x1) := (blk_cell BK5.out 1).trans rfl; have hz2 : w11.cell? ⟨g5, 2, none⟩ = some (.int .i64 x2) := (blk_cell BK5.out 2).trans rfl))
      go_ret
      exact ⟨rfl, (by repeat (first | (with_reducible first | exact HB.out | apply below_alloc | apply pw_below_drewN | apply below_drew1) | exact HB.out))⟩
    by_cases c2 : x1 < 0
    · have c1b : decide (x0 < 0) = false := decide_eq_false c1
      have c2b : decide (x1 < 0) = true := decide_eq_true c2
      clear HX c1 c2
      go_enter Try.func6, Try.ntmps6
      go_wp2_with (first
          | ((with_reducible refine gate_dst (N := 5) rfl ?_); (try (refine gate_guard (by rfl) ?_; dsimp only)); refine box_event ?hg (N := 5) ?hd (cs := #[.int .i64 x0, .int .i64 x1, .int .i64 x2]) (t := 43) ?hr ?_; (case hd => rfl); (case hg => rfl); (case hr => first | (go_simp; done) | (go_simp; rfl)); intro g5 hg w5 hbox hb; have n2_ := Aside0.mk (below_step HB.out hb); have BK5 := Aside0.mk hbox; have GE5 := Aside0.mk ((by rw [hg]; exact below_size HB.out) : w.heap.size ≤ g5); clear HB; have HB := n2_; clear n2_ hb hbox hg)
          | (go_at_call 9; (with_reducible refine (strakelaw15_awake.calls k true _ A3.out).mono ?_); rintro e w10 ⟨rfl, hb⟩; have n0_ := Aside0.mk (below_step HB.out hb); have n1_ := Aside0.mk (blk_below (g := g5) BK5.out hb); clear HB BK5; have HB := n0_; have BK5 := n1_; clear n0_ n1_ hb)
          | (go_at_call 10; (with_reducible refine (strakelaw15_slim.calls k _ _ l1 true _ ?side1 ?side2 A4.out).mono ?_); (case side1 => exact Kd.C_below HR1.out HB.out); (case side2 => exact HC1.out); rintro e w11 ⟨rfl, ⟨nd, hw⟩⟩; have n0_ := Aside0.mk (show Below w.heap.size w w11 from by rw [hw]; exact pw_below_drewN HB.out nd); have n1_ := Aside0.mk (show w11.heap[g5]? = some (.cells #[.int .i64 x0, .int .i64 x1, .int .i64 x2] 43 (0, 0)) from by rw [hw]; exact blk_drewN BK5.out nd); clear HB BK5 hw; have HB := n0_; have BK5 := n1_; clear n0_ n1_; have hz0 : w11.cell? ⟨g5, 0, none⟩ = some (.int .i64 x0) := (blk_cell BK5.out 0).trans rfl; have hz1 : w11.cell? ⟨g5, 1, none⟩ = some (.int .i64 x1) := (blk_cell BK5.out 1).trans rfl; have hz2 : w11.cell? ⟨g5, 2, none⟩ = some (.int .i64 x2) := (blk_cell BK5.out 2).trans rfl))
      go_ret
      exact ⟨rfl, (by repeat (first | (with_reducible first | exact HB.out | apply below_alloc | apply pw_below_drewN | apply below_drew1) | exact HB.out))⟩
    by_cases c3 : x2 % 256 = 0
    · have c1b : decide (x0 < 0) = false := decide_eq_false c1
      have c2b : decide (x1 < 0) = false := decide_eq_false c2
      have c3b : (x2 % 256 == 0) = true := beq_iff_eq.mpr c3
      clear HX c1 c2 c3
      go_enter Try.func6, Try.ntmps6
      go_wp2_with (first
          | ((with_reducible refine gate_dst (N := 5) rfl ?_); (try (refine gate_guard (by rfl) ?_; dsimp only)); refine box_event ?hg (N := 5) ?hd (cs := #[.int .i64 x0, .int .i64 x1, .int .i64 x2]) (t := 43) ?hr ?_; (case hd => rfl); (case hg => rfl); (case hr => first | (go_simp; done) | (go_simp; rfl)); intro g5 hg w5 hbox hb; have n2_ := Aside0.mk (below_step HB.out hb); have BK5 := Aside0.mk hbox; have GE5 := Aside0.mk ((by rw [hg]; exact below_size HB.out) : w.heap.size ≤ g5); clear HB; have HB := n2_; clear n2_ hb hbox hg)
          | (go_at_call 9; (with_reducible refine (strakelaw15_awake.calls k true _ A3.out).mono ?_); rintro e w10 ⟨rfl, hb⟩; have n0_ := Aside0.mk (below_step HB.out hb); have n1_ := Aside0.mk (blk_below (g := g5) BK5.out hb); clear HB BK5; have HB := n0_; have BK5 := n1_; clear n0_ n1_ hb)
          | (go_at_call 10; (with_reducible refine (strakelaw15_slim.calls k _ _ l1 true _ ?side1 ?side2 A4.out).mono ?_); (case side1 => exact Kd.C_below HR1.out HB.out); (case side2 => exact HC1.out); rintro e w11 ⟨rfl, ⟨nd, hw⟩⟩; have n0_ := Aside0.mk (show Below w.heap.size w w11 from by rw [hw]; exact pw_below_drewN HB.out nd); have n1_ := Aside0.mk (show w11.heap[g5]? = some (.cells #[.int .i64 x0, .int .i64 x1, .int .i64 x2] 43 (0, 0)) from by rw [hw]; exact blk_drewN BK5.out nd); clear HB BK5 hw; have HB := n0_; have BK5 := n1_; clear n0_ n1_; have hz0 : w11.cell? ⟨g5, 0, none⟩ = some (.int .i64 x0) := (blk_cell BK5.out 0).trans rfl; have hz1 : w11.cell? ⟨g5, 1, none⟩ = some (.int .i64 x1) := (blk_cell BK5.out 1).trans rfl; have hz2 : w11.cell? ⟨g5, 2, none⟩ = some (.int .i64 x2) := (blk_cell BK5.out 2).trans rfl))
      go_ret
      exact ⟨rfl, (by repeat (first | (with_reducible first | exact HB.out | apply below_alloc | apply pw_below_drewN | apply below_drew1) | exact HB.out))⟩
    have c1b : decide (x0 < 0) = false := decide_eq_false c1
    have c2b : decide (x1 < 0) = false := decide_eq_false c2
    have c3b : (x2 % 256 == 0) = false := beq_eq_false_iff_ne.mpr c3
    obtain ⟨d, b, er, hB, hx⟩ := HX.out rfl c1 c2 c3
    have A6 := Aside0.mk hB
    have P0 := Aside0.mk (show 0 ≤ x0 from by omega)
    have P1 := Aside0.mk (show 0 ≤ x1 from by omega)
    clear HX c1 c2 c3 hB
    by_cases ce : er = 0
    rotate_left
    · clear hx
      have ceb : (er != 0) = true := bne_iff_ne.mpr ce
      clear ce
      go_enter Try.func6, Try.ntmps6
      go_wp2_with (first
          | ((with_reducible refine gate_dst (N := 5) rfl ?_); (try (refine gate_guard (by rfl) ?_; dsimp only)); refine box_event ?hg (N := 5) ?hd (cs := #[.int .i64 x0, .int .i64 x1, .int .i64 x2]) (t := 43) ?hr ?_; (case hd => rfl); (case hg => rfl); (case hr => first | (go_simp; done) | (go_simp; rfl)); intro g5 hg w5 hbox hb; have n2_ := Aside0.mk (below_step HB.out hb); have BK5 := Aside0.mk hbox; have GE5 := Aside0.mk ((by rw [hg]; exact below_size HB.out) : w.heap.size ≤ g5); clear HB; have HB := n2_; clear n2_ hb hbox hg)
          | (go_at_call 9; (with_reducible refine (strakelaw15_awake.calls k true _ A3.out).mono ?_); rintro e w10 ⟨rfl, hb⟩; have n0_ := Aside0.mk (below_step HB.out hb); have n1_ := Aside0.mk (blk_below (g := g5) BK5.out hb); clear HB BK5; have HB := n0_; have BK5 := n1_; clear n0_ n1_ hb)
          | (go_at_call 10; (with_reducible refine (strakelaw15_slim.calls k _ _ l1 true _ ?side1 ?side2 A4.out).mono ?_); (case side1 => exact Kd.C_below HR1.out HB.out); (case side2 => exact HC1.out); rintro e w11 ⟨rfl, ⟨nd, hw⟩⟩; have n0_ := Aside0.mk (show Below w.heap.size w w11 from by rw [hw]; exact pw_below_drewN HB.out nd); have n1_ := Aside0.mk (show w11.heap[g5]? = some (.cells #[.int .i64 x0, .int .i64 x1, .int .i64 x2] 43 (0, 0)) from by rw [hw]; exact blk_drewN BK5.out nd); clear HB BK5 hw; have HB := n0_; have BK5 := n1_; clear n0_ n1_; have hz0 : w11.cell? ⟨g5, 0, none⟩ = some (.int .i64 x0) := (blk_cell BK5.out 0).trans rfl; have hz1 : w11.cell? ⟨g5, 1, none⟩ = some (.int .i64 x1) := (blk_cell BK5.out 1).trans rfl; have hz2 : w11.cell? ⟨g5, 2, none⟩ = some (.int .i64 x2) := (blk_cell BK5.out 2).trans rfl)
          | (go_at_call 11; (with_reducible refine (page_Build2.calls k a0 _ _ l1 d b er _ ?side1 ?side2 A6.out).mono ?_); (case side1 => exact Kd.C_below HR1.out HB.out); (case side2 => exact HC1.out); rintro e w12 ⟨va, vb, D, rfl, ho0, ho1, hb⟩; have n0_ := Aside0.mk (Kd.S_lower ho0 (below_size HB.out)); have n1_ := Aside0.mk (Kd.S_lower ho1 (below_size HB.out)); have n2_ := Aside0.mk (below_step HB.out hb); have n3_ := Aside0.mk (blk_below (g := g5) BK5.out hb); clear HB BK5 hz0 hz1 hz2; have HO9 := n0_; have HO10 := n1_; have HB := n2_; have BK5 := n3_; clear n0_ n1_ n2_ n3_ hb ho0 ho1; obtain ⟨A9, q9, e9⟩ := Kd.S_slice HO9.out; subst e9; obtain ⟨A10, q10, e10⟩ := Kd.S_slice HO10.out; subst e10; have hz0 : w12.cell? ⟨g5, 0, none⟩ = some (.int .i64 x0) := (blk_cell BK5.out 0).trans rfl; have hz1 : w12.cell? ⟨g5, 1, none⟩ = some (.int .i64 x1) := (blk_cell BK5.out 1).trans rfl; have hz2 : w12.cell? ⟨g5, 2, none⟩ = some (.int .i64 x2) := (blk_cell BK5.out 2).trans rfl))
      go_ret
      exact ⟨rfl, (by repeat (first | (with_reducible first | exact HB.out | apply below_alloc | apply pw_below_drewN | apply below_drew1) | exact HB.out))⟩
    · subst ce
      obtain ⟨hd_, hb_, hl0, hld, h4, h16, h17, l, hr, hll, hall⟩ := hx rfl
      have hia0 : 0 ≤ Int.tmod x0 l1.length := Int.tmod_nonneg _ P0.out
      have hia1 : Int.tmod x0 l1.length < l1.length := Int.tmod_lt_of_pos _ (by omega)
      have hik0 : 0 ≤ Int.tmod x1 33 := Int.tmod_nonneg _ P1.out
      have hik1 : Int.tmod x1 33 < 33 := Int.tmod_lt_of_pos _ (by omega)
      obtain ⟨ia, hia⟩ : ∃ ia, ia = Int.tmod x0 l1.length := ⟨_, rfl⟩
      obtain ⟨ik, hik⟩ : ∃ ik, ik = Int.tmod x1 33 := ⟨_, rfl⟩
      rw [← hia] at hia0 hia1 h16 h17 hr hall
      rw [← hik] at hik0 hik1 hr
      have IA := Aside0.mk hia
      have IK := Aside0.mk hik
      have IA0 := Aside0.mk hia0
      have IA1 := Aside0.mk hia1
      have IK0 := Aside0.mk hik0
      have IK1 := Aside0.mk hik1
      have A8 := Aside0.mk hr
      have ALL := Aside0.mk hall
      have HLL := Aside0.mk hll
      have HLD := Aside0.mk hld
      have HL0 := Aside0.mk hl0
      have H4 := Aside0.mk h4
      have HD := Aside0.mk hd_
      have HBL := Aside0.mk hb_
      have H16 := Aside0.mk h16
      have H17 := Aside0.mk h17
      have cd : ((d.length : Int) != a0) = false := bne_eq_false_iff_eq.mpr hd_
      have cb : ((b.length : Int) != a0) = false := bne_eq_false_iff_eq.mpr hb_
      have cl : ((l1.length : Int) == 0) = false := beq_eq_false_iff_ne.mpr (by omega)
      have cl2 : ¬ (l1 = []) := fun h_ => by rw [h_] at hl0; exact absurd hl0 (by simp)
      clear hx hr hall hll hld hl0 h4 hd_ hb_ h16 h17 hia hik hia0 hia1 hik0 hik1
      go_enter Try.func6, Try.ntmps6
      go_upto_region 11 with (first
          | ((with_reducible refine gate_dst (N := 5) rfl ?_); (try (refine gate_guard (by rfl) ?_; dsimp only)); refine box_event ?hg (N := 5) ?hd (cs := #[.int .i64 x0, .int .i64 x1, .int .i64 x2]) (t := 43) ?hr ?_; (case hd => rfl); (case hg => rfl); (case hr => first | (go_simp; done) | (go_simp; rfl)); intro g5 hg w5 hbox hb; have n2_ := Aside0.mk (below_step HB.out hb); have BK5 := Aside0.mk hbox; have GE5 := Aside0.mk ((by rw [hg]; exact below_size HB.out) : w.heap.size ≤ g5); clear HB; have HB := n2_; clear n2_ hb hbox hg)
          | (go_at_call 9; (with_reducible refine (strakelaw15_awake.calls k true _ A3.out).mono ?_); rintro e w10 ⟨rfl, hb⟩; have n0_ := Aside0.mk (below_step HB.out hb); have n1_ := Aside0.mk (blk_below (g := g5) BK5.out hb); clear HB BK5; have HB := n0_; have BK5 := n1_; clear n0_ n1_ hb)
          | (go_at_call 10; (with_reducible refine (strakelaw15_slim.calls k _ _ l1 true _ ?side1 ?side2 A4.out).mono ?_); (case side1 => exact Kd.C_below HR1.out HB.out); (case side2 => exact HC1.out); rintro e w11 ⟨rfl, ⟨nd, hw⟩⟩; have n0_ := Aside0.mk (show Below w.heap.size w w11 from by rw [hw]; exact pw_below_drewN HB.out nd); have n1_ := Aside0.mk (show w11.heap[g5]? = some (.cells #[.int .i64 x0, .int .i64 x1, .int .i64 x2] 43 (0, 0)) from by rw [hw]; exact blk_drewN BK5.out nd); clear HB BK5 hw; have HB := n0_; have BK5 := n1_; clear n0_ n1_; have hz0 : w11.cell? ⟨g5, 0, none⟩ = some (.int .i64 x0) := (blk_cell BK5.out 0).trans rfl; have hz1 : w11.cell? ⟨g5, 1, none⟩ = some (.int .i64 x1) := (blk_cell BK5.out 1).trans rfl; have hz2 : w11.cell? ⟨g5, 2, none⟩ = some (.int .i64 x2) := (blk_cell BK5.out 2).trans rfl)
          | (go_at_call 11; (with_reducible refine (page_Build2.calls k a0 _ _ l1 d b 0 _ ?side1 ?side2 A6.out).mono ?_); (case side1 => exact Kd.C_below HR1.out HB.out); (case side2 => exact HC1.out); rintro e w12 ⟨va, vb, D, rfl, ho0, ho1, hb⟩; have n0_ := Aside0.mk (Kd.S_lower ho0 (below_size HB.out)); have n1_ := Aside0.mk (Kd.S_lower ho1 (below_size HB.out)); have n2_ := Aside0.mk (below_step HB.out hb); have n3_ := Aside0.mk (blk_below (g := g5) BK5.out hb); clear HB BK5 hz0 hz1 hz2; have HO9 := n0_; have HO10 := n1_; have HB := n2_; have BK5 := n3_; clear n0_ n1_ n2_ n3_ hb ho0 ho1; obtain ⟨A9, q9, e9⟩ := Kd.S_slice HO9.out; subst e9; obtain ⟨A10, q10, e10⟩ := Kd.S_slice HO10.out; subst e10; have hz0 : w12.cell? ⟨g5, 0, none⟩ = some (.int .i64 x0) := (blk_cell BK5.out 0).trans rfl; have hz1 : w12.cell? ⟨g5, 1, none⟩ = some (.int .i64 x1) := (blk_cell BK5.out 1).trans rfl; have hz2 : w12.cell? ⟨g5, 2, none⟩ = some (.int .i64 x2) := (blk_cell BK5.out 2).trans rfl))
      rw [← IA.out]
      obtain ⟨g9, q_, e_, g9b, g9l, cells_, g9k⟩ := Kd.S_form HO9.out (by have := HL0.out; have := HLD.out; have := HD.out; have := HBL.out; omega)
      injection e_ with e1_ _ e2_
      subst e1_
      subst e2_
      have ra1 : ia < (d.length : Int) := by have := IA1.out; have := HLD.out; have := HD.out; have := HBL.out; omega
      obtain ⟨oka, c_, hcl_, hM_, hc_, hf_, hoka, hHa⟩ := Kd.S_elem HO9.out ([] : List Int) ia IA0.out ra1
      obtain ⟨va, rfl, hQa⟩ := hM_
      have hRa : (Kd.int .u8).R 5 w12 w.heap.size oka va (rd_L2 d ia) := hQa
      obtain ⟨pa, sa, e_, pab, pal, _, pak⟩ := Kd.R_form hRa (by rw [H16.out]; omega)
      subst e_
      rw [H16.out] at hc_ hRa hHa
      have hxa : w12.cell? ⟨g9, ia.toNat, none⟩ = some (.slice (some ⟨pa, 0, none⟩) 16 sa) := by have h_ := hc_ 0 _ rfl; simpa [Kd.slice] using h_
      have Ra := Aside0.mk hRa
      have HHa := Aside0.mk hHa
      have OKa := Aside0.mk hoka
      have PBa := Aside0.mk pab
      clear hQa hcl_ hc_ hf_ hRa hHa hoka g9b g9l g9k pab pal pak
      obtain ⟨g10, q_, e_, g10b, g10l, cells_, g10k⟩ := Kd.S_form HO10.out (by have := HL0.out; have := HLD.out; have := HD.out; have := HBL.out; omega)
      injection e_ with e1_ _ e2_
      subst e1_
      subst e2_
      have rb1 : ia < (b.length : Int) := by have := IA1.out; have := HLD.out; have := HD.out; have := HBL.out; omega
      obtain ⟨okb, c_, hcl_, hM_, hc_, hf_, hokb, hHb⟩ := Kd.S_elem HO10.out ([] : List Int) ia IA0.out rb1
      obtain ⟨vb, rfl, hQb⟩ := hM_
      have hRb : (Kd.int .u8).R 5 w12 w.heap.size okb vb (rd_L2 b ia) := hQb
      obtain ⟨pb, sb, e_, pbb, pbl, _, pbk⟩ := Kd.R_form hRb (by rw [H17.out]; omega)
      subst e_
      rw [H17.out] at hc_ hRb hHb
      have hxb : w12.cell? ⟨g10, ia.toNat, none⟩ = some (.slice (some ⟨pb, 0, none⟩) 17 sb) := by have h_ := hc_ 0 _ rfl; simpa [Kd.slice] using h_
      have Rb := Aside0.mk hRb
      have HHb := Aside0.mk hHb
      have OKb := Aside0.mk hokb
      have PBb := Aside0.mk pbb
      clear hQb hcl_ hc_ hf_ hRb hHb hokb g10b g10l g10k pbb pbl pbk
      have i0_ := eq_true IA0.out
      replace ra1 := eq_true ra1
      replace rb1 := eq_true rb1
      go_upto_if 82 with (fail)
      rw [← IK.out]
      go_cut [] (fun wc => Aside0 (Kd.S (Kd.slice 5 (Kd.int .u8)) 36 wc w.heap.size D (.slice (some ⟨g9, 0, none⟩) d.length q9) (turnedD d ia ik x2)) ∧ Aside0 (Kd.S (Kd.slice 5 (Kd.int .u8)) 36 wc w.heap.size (fun k_ => ¬ D k_) (.slice (some ⟨g10, 0, none⟩) b.length q10) (turnedB b ia ik x2)) ∧ Aside0 (Below w.heap.size w wc))
      case first =>
        have i1_ := eq_true IK0.out
        by_cases c4 : ik < 16
        · have c4b : decide (ik < 16) = true := decide_eq_true c4
          have N4 := Aside0.mk c4
          have i2_ := eq_true c4
          obtain ⟨hya, hfa⟩ := Kd.R_celln 0 Ra.out ik IK0.out c4
          go_wp2_with (fail)
          go_still_tail 17, (by kernel_rfl)
          change wpList _ _ _ _ _ w12.drew
          go_wp2_with (first | ((with_reducible refine gate_store (t := 5) (p := 99) rfl ?_); refine store_event (t := 5) (p := 99) (v := ?vo_w17) (w1 := (w12.drew.setCell ⟨pa, ik.toNat, none⟩ (.int .u8 (Go.bits .xor .u8 (rd (rd_L2 d ia) ik) (x2 % 256))))) ?hg ?ho ?hn ?hr ?_; (case ho => rfl); (case hg => rfl); (case hn => rfl); (case hr => first | (go_simp; done) | (go_simp; rfl)); intro w13 hw; have HP := Kd.R_putg (Kd.R_drew Ra.out) ik (Go.bits .xor .u8 (rd (rd_L2 d ia) ik) (x2 % 256)); rw [← hw] at HP; have hg := HP.2; have n1_ := Aside0.mk (Kd.H_back (Kd.H_grown (Kd.H_drew HHa.out) hg (fun k_ e_ => Ra.out.1 k_ e_)) (Kd.M_row HP.1) (fun _ hk => hk)); have n2_ := Aside0.mk (Kd.S_grown (Kd.S_drew HO10.out) hg (fun k_ hk e_ => hk (OKa.out k_ (Ra.out.1 k_ e_.symm)).1)); have n3_ := Aside0.mk (show Below w.heap.size w w13 from by rw [hw]; exact below_set (below_drew1 HB.out) PBa.out); clear HP hg hw))
          go_meet
          case rel => exact ⟨⟨by unfold turnedD turnedRow; rw [if_pos N4.out]; exact n1_.out⟩, ⟨by unfold turnedB turnedRow; rw [if_pos N4.out]; exact n2_.out⟩, n3_⟩
        · have c4b : decide (ik < 16) = false := decide_eq_false c4
          have N4 := Aside0.mk c4
          have k1_ : 0 ≤ ik - 16 := by omega
          have k2_ : ik - 16 < 17 := by have := IK1.out; omega
          have i2_ := eq_true k1_
          have i3_ := eq_true k2_
          obtain ⟨hyb, hfb⟩ := Kd.R_celln 0 Rb.out (ik - 16) k1_ k2_
          have hwr : IntKind.i64.wrap (ik - 16) = ik - 16 := by have := IK1.out; rw [IntKind.wrap_i64]; omega
          go_wp2_with (fail)
          go_still_tail 19, (by kernel_rfl)
          change wpList _ _ _ _ _ w12.drew
          go_wp2_with (first | ((with_reducible refine gate_store (t := 5) (p := 118) rfl ?_); refine store_event (t := 5) (p := 118) (v := ?vo_w19) (w1 := (w12.drew.setCell ⟨pb, (ik - 16).toNat, none⟩ (.int .u8 (Go.bits .xor .u8 (rd (rd_L2 b ia) (ik - 16)) (x2 % 256))))) ?hg ?ho ?hn ?hr ?_; (case ho => rfl); (case hg => rfl); (case hn => rfl); (case hr => first | (go_simp; done) | (go_simp; rfl)); intro w13 hw; have HP := Kd.R_putg (Kd.R_drew Rb.out) (ik - 16) (Go.bits .xor .u8 (rd (rd_L2 b ia) (ik - 16)) (x2 % 256)); rw [← hw] at HP; have hg := HP.2; have n1_ := Aside0.mk (Kd.H_back (Kd.H_grown (Kd.H_drew HHb.out) hg (fun k_ e_ => Rb.out.1 k_ e_)) (Kd.M_row HP.1) (fun _ hk => hk)); have n2_ := Aside0.mk (Kd.S_grown (Kd.S_drew HO9.out) hg (fun k_ hk e_ => (OKb.out k_ (Rb.out.1 k_ e_.symm)).1 hk)); have n3_ := Aside0.mk (show Below w.heap.size w w13 from by rw [hw]; exact below_set (below_drew1 HB.out) PBb.out); clear HP hg hw))
          go_meet
          case rel => exact ⟨⟨by unfold turnedD turnedRow; rw [if_neg (by have := N4.out; omega)]; exact n2_.out⟩, ⟨by unfold turnedB turnedRow; rw [if_neg (by have := N4.out; omega)]; exact n1_.out⟩, n3_⟩
      case rest =>
        clear HO9 HO10 HB
        obtain ⟨HO9, HO10, HB⟩ := hcut
        have TD := Aside0.mk (show (turnedD d ia ik x2).length = d.length from by unfold turnedD; split <;> simp)
        have TB := Aside0.mk (show (turnedB b ia ik x2).length = b.length from by unfold turnedB; split <;> simp)
        have cn : ((l.length : Int) != (l1.length : Int) - 1) = false := bne_eq_false_iff_eq.mpr (by have := HLL.out; omega)
        have hw1 : IntKind.i64.wrap ((l1.length : Int) - 1) = (l1.length : Int) - 1 := by have := H4.out; have := HLD.out; have := HD.out; rw [IntKind.wrap_i64]; omega
        clear hz0 hz1 hz2 BK5 hxa hxb Ra Rb HHa HHb OKa OKb PBa PBb i0_ ra1 rb1 c1b c2b c3b
        go_wp2_with (first | (go_at_call 16; have hc_ := page_Read.calls k (some ⟨g9, 0, none⟩) q9 (turnedD d ia ik x2) (some ⟨g10, 0, none⟩) q10 (turnedB b ia ik x2) l _ (by rw [TD.out]; exact (by have h_ := (Kd.S_reads' HO9.out).2.2; rwa [TD.out] at h_)) (by rw [TD.out]; exact (Kd.S_reads' HO9.out).2.1) (by rw [TB.out]; exact (by have h_ := (Kd.S_reads' HO10.out).2.2; rwa [TB.out] at h_)) (by rw [TB.out]; exact (Kd.S_reads' HO10.out).2.1) A8.out; rw [TD.out, TB.out] at hc_; (with_reducible refine hc_.mono ?_); rintro e w14 ⟨vl, rfl, ho0, hb⟩; have n0_ := Aside0.mk (Kd.S_lower ho0 (below_size HB.out)); have n2_ := Aside0.mk (below_step HB.out hb); clear HB HO9 HO10 hc_; have HO14 := n0_; have HB := n2_; clear n0_ n2_ hb ho0; obtain ⟨A14, q14, e14⟩ := Kd.S_slice HO14.out; subst e14))
        go_loopg [15] (l.length + 1) (fun kq v15 w' => ∃ x : Int, v15 = .int .i64 x ∧ Aside0 (0 ≤ x ∧ x ≤ l.length) ∧ Aside0 ((kq : Int) + x = l.length + 1) ∧ Aside0 (Kd.S k42 42 w' w.heap.size (fun _ => True) (.slice A14 l.length q14) l) ∧ Aside0 (Below w.heap.size w w'))
        case atStart => exact ⟨0, rfl, ⟨by omega⟩, ⟨by omega⟩, HO14, HB⟩
        case round =>
          clear HO14 HB
          obtain ⟨x, rfl, HI, HK, HO14, HB⟩ := hrel
          cases gk with
          | zero => exact absurd HK.out (by have := HI.out; omega)
          | succ k1 =>
            by_cases c5 : x < l.length
            · have c5b : decide (x < (l.length : Int)) = true := decide_eq_true (by omega)
              have NI := Aside0.mk c5
              have hw2 : IntKind.i64.wrap (x + 1) = x + 1 := by have := HI.out; have := HLL.out; have := H4.out; have := HLD.out; have := HD.out; rw [IntKind.wrap_i64]; omega
              obtain ⟨f0, f1, f2⟩ := ALL.out x.toNat (by have := HI.out; omega)
              clear c5
              have hcx : ((x.toNat : Nat) : Int) = x := Int.toNat_of_nonneg HI.out.1
              rw [hcx] at f0 f1 f2
              have p1 : (0 : Int) ≤ x := HI.out.1
              have p2 : x < (l.length : Int) := by have := NI.out; omega
              obtain ⟨ad42, A42, c42, e42, hx42_0, hx42_1, hx42_2, hx42_3, hx42_4, _, _⟩ := at_T42 (Kd.S_reads' HO14.out).2.2 x p1 p2
              subst e42
              replace p1 := eq_true p1
              replace p2 := eq_true p2
              by_cases c6 : ia ≤ x
              · have c6b : decide (ia ≤ x) = true := decide_eq_true c6
                have hwant : ((wantOf ia x.toNat : Nat) : Int) = (x + 1) := by unfold wantOf; rw [if_pos (by omega)]; omega
                rw [hwant] at f0 f1 f2
                clear c6 hwant hcx
                have p3 : 0 ≤ (x + 1) := by have := HI.out; omega
                have p4 : (x + 1) < (l1.length : Int) := by have := NI.out; have := HLL.out; omega
                obtain ⟨ad38, A38, c38, e38, hx38_0, hx38_1, hx38_2, hx38_3, hx38_4, _, _⟩ := at_T38 HR1.out (x + 1) p3 p4
                have E38 := Aside0.mk e38
                subst e38
                replace hx38_0 := (HB.out.cell (World.block_lt_of_cell? w _ hx38_0)).trans hx38_0
                replace hx38_1 := (HB.out.cell (World.block_lt_of_cell? w _ hx38_1)).trans hx38_1
                replace hx38_2 := (HB.out.cell (World.block_lt_of_cell? w _ hx38_2)).trans hx38_2
                replace hx38_3 := (HB.out.cell (World.block_lt_of_cell? w _ hx38_3)).trans hx38_3
                replace hx38_4 := (HB.out.cell (World.block_lt_of_cell? w _ hx38_4)).trans hx38_4
                replace p3 := eq_true p3
                replace p4 := eq_true p4
                have b0 : ((rd_T42 l x).f0 != (x + 1)) = false := bne_eq_false_iff_eq.mpr f0
                have b1 : ((rd_T42 l x).f1.f1 != (rd_T38 l1 (x + 1)).f1) = false := bne_eq_false_iff_eq.mpr f1
                have b2 : ((rd_T42 l x).f1.f2 != (rd_T38 l1 (x + 1)).f2) = false := bne_eq_false_iff_eq.mpr f2
                clear f0 f1 f2
                go_wp2
                go_quiet (fail)
                go_wp2
                go_roundg k1
                case measure => omega
                case rel => exact ⟨x + 1, rfl, ⟨by have := HI.out; have := NI.out; omega⟩, ⟨by have := HK.out; omega⟩, ⟨Kd.S_drewN HO14.out _⟩, ⟨pw_below_drewN HB.out _⟩⟩
              · have c6b : decide (ia ≤ x) = false := decide_eq_false c6
                have hwant : ((wantOf ia x.toNat : Nat) : Int) = x := by unfold wantOf; rw [if_neg (by omega)]; omega
                rw [hwant] at f0 f1 f2
                clear c6 hwant hcx
                have p3 : 0 ≤ x := by have := HI.out; omega
                have p4 : x < (l1.length : Int) := by have := NI.out; have := HLL.out; omega
                obtain ⟨ad38, A38, c38, e38, hx38_0, hx38_1, hx38_2, hx38_3, hx38_4, _, _⟩ := at_T38 HR1.out x p3 p4
                have E38 := Aside0.mk e38
                subst e38
                replace hx38_0 := (HB.out.cell (World.block_lt_of_cell? w _ hx38_0)).trans hx38_0
                replace hx38_1 := (HB.out.cell (World.block_lt_of_cell? w _ hx38_1)).trans hx38_1
                replace hx38_2 := (HB.out.cell (World.block_lt_of_cell? w _ hx38_2)).trans hx38_2
                replace hx38_3 := (HB.out.cell (World.block_lt_of_cell? w _ hx38_3)).trans hx38_3
                replace hx38_4 := (HB.out.cell (World.block_lt_of_cell? w _ hx38_4)).trans hx38_4
                replace p3 := eq_true p3
                replace p4 := eq_true p4
                have b0 : ((rd_T42 l x).f0 != x) = false := bne_eq_false_iff_eq.mpr f0
                have b1 : ((rd_T42 l x).f1.f1 != (rd_T38 l1 x).f1) = false := bne_eq_false_iff_eq.mpr f1
                have b2 : ((rd_T42 l x).f1.f2 != (rd_T38 l1 x).f2) = false := bne_eq_false_iff_eq.mpr f2
                clear f0 f1 f2
                go_wp2
                go_quiet (fail)
                go_wp2
                go_roundg k1
                case measure => omega
                case rel => exact ⟨x + 1, rfl, ⟨by have := HI.out; have := NI.out; omega⟩, ⟨by have := HK.out; omega⟩, ⟨Kd.S_drewN HO14.out _⟩, ⟨pw_below_drewN HB.out _⟩⟩
            · have c5b : decide (x < (l.length : Int)) = false := decide_eq_false c5
              go_wp2
              go_ret
              exact ⟨rfl, HB.out⟩
end Go.Proofs.Ythoebkkohdfgeaa.X
