-- laid by wip/tools/xprint.py (our own changes over the printer)
import Derived.Test.YtlheknapgonakaaX0
import Derived.Test.YtlheknapgonakaaX1
import Derived.Test.YtlheknapgonakaaSortLaid
import Derived.Test.YtlheknapgonakaaMapF
import Derived.Maps.OwnOps
namespace Go.Proofs.Ytlheknapgonakaa.X
open Go.RowKit Go.Proofs.YtlheknapgonakaaW.PrintWords Go.Proofs.YtlheknapgonakaaW.PrintLast Go.Proofs.YtlheknapgonakaaW.PrintMore
attribute [local go_sem] max2_int min2_int max_two min_two max_three min_three max_four min_four   -- for this text's walks alone
set_option linter.unusedVariables false
set_option linter.unusedSimpArgs false

/-! ### replay_Stale: function 11 -/
open Go.Proofs.Ytlheknapgonakaa.Plain
/-- the addresses of what counts and is older than the newest one of its sector, in order -/
def staleRaw (g : Int → Option S27) (n : Int) : List S27 → List Int
  | [] => []
  | x :: l => (if fcnt x n = true then (if fnew ((g x.f1.f1).getD z27) x = true then [x.f0] else []) else []) ++ staleRaw g n l
theorem raw_len (g : Int → Option S27) (n : Int) (l : List S27) : (staleRaw g n l).length ≤ l.length := by
  induction l with
  | nil => simp [staleRaw]
  | cons x l ih =>
    simp only [staleRaw, List.length_append, List.length_cons]
    have : (if fcnt x n = true then (if fnew ((g x.f1.f1).getD z27) x = true then [x.f0] else []) else []).length ≤ 1 := by
      repeat' split
      all_goals simp
    omega
theorem raw_app (g : Int → Option S27) (n : Int) (l : List S27) (x : S27) : staleRaw g n (l ++ [x]) = staleRaw g n l ++ (if fcnt x n = true then (if fnew ((g x.f1.f1).getD z27) x = true then [x.f0] else []) else []) := by
  induction l with
  | nil => simp [staleRaw]
  | cons y l ih => simp only [List.cons_append, staleRaw, ih, List.append_assoc]
theorem raw_step (g : Int → Option S27) (n : Int) (l : List S27) (i : Nat) (h : i < l.length) : staleRaw g n (l.take (i + 1)) = staleRaw g n (l.take i) ++ (if fcnt (rd_T27 l (i : Int)) n = true then (if fnew ((g (rd_T27 l (i : Int)).f1.f1).getD z27) (rd_T27 l (i : Int)) = true then [(rd_T27 l (i : Int)).f0] else []) else []) := by
  have e : rd_T27 l (i : Int) = l[i] := by simp [rd_T27, h]
  rw [List.take_succ_eq_append_getElem h, raw_app, e]
def replay_Stale.f (l0 : List S27) (a1 : Int) : Option (List Int) := if a1 < 1 then some [] else if 4096 < a1 then some [] else if l0.length < 17592186044416 then some (Lib.compact ((staleRaw (bestF l0 a1) a1 l0).mergeSort fun x y => decide (x ≤ y))) else none
set_option maxHeartbeats 4000000 in
set_option maxRecDepth 100000 in
theorem replay_Stale.calls (A0 : Option Addr) (c0 : Nat) (l0 : List S27) (a1 : Int) (r : List Int) (w : World) (hr0 : Kd.C k27 w A0 l0.length l0) (hc0 : l0.length ≤ c0) (h : replay_Stale.f l0 a1 = some r) :
    Calls Try.prog 11 #[.slice A0 l0.length c0, .int .i64 a1] w fun e w' => ∃ v0_ : Value, e = .returned (v0_) ∧ Kd.R (Kd.int .i64) 3 w' w.heap.size (fun _ => True) v0_ r ∧ Below w.heap.size w w' := by
  have hu27 := Try.underlying27
  have HR := Aside0.mk hr0
  have HC := Aside0.mk hc0
  clear hr0 hc0
  have HB := Aside0.mk (Below.refl w.heap.size w)
  by_cases c1 : a1 < 1
  · unfold replay_Stale.f at h
    rw [if_pos c1] at h
    cases h
    have c1b : decide (a1 < 1) = true := decide_eq_true c1
    clear c1
    go_enter Try.func11, Try.ntmps11
    go_wp2
    go_ret
    exact ⟨_, rfl, Kd.R_nil _ _ _ _ _, HB.out⟩
  · by_cases c2 : 4096 < a1
    · unfold replay_Stale.f at h
      rw [if_neg c1, if_pos c2] at h
      cases h
      have c1b : decide (a1 < 1) = false := decide_eq_false c1
      have c2b : decide (4096 < a1) = true := decide_eq_true c2
      clear c1 c2
      go_enter Try.func11, Try.ntmps11
      go_wp2
      go_ret
      exact ⟨_, rfl, Kd.R_nil _ _ _ _ _, HB.out⟩
    · unfold replay_Stale.f at h
      rw [if_neg c1, if_neg c2] at h
      by_cases c3 : l0.length < 17592186044416
      rotate_left
      · rw [if_neg c3] at h; cases h
      rw [if_pos c3] at h
      have HLB := Aside0.mk c3
      have H1 := Aside0.mk (Option.some.inj h)
      have C12 := Aside0.mk (show a1 ≤ 4096 from by omega)
      have c1b : decide (a1 < 1) = false := decide_eq_false c1
      have c2b : decide (4096 < a1) = false := decide_eq_false c2
      clear c1 c2 c3 h
      go_enter Try.func11, Try.ntmps11
      go_wp2_with (first
        | ((with_reducible refine gate_callee (f := 15) rfl ?_); refine goesL_ (some 17) rfl rfl Try.func15 (by kernel_rfl) rfl #[.slice A0 l0.length c0, .int .i64 a1] rfl (by (try simp only [List.map_toArray, List.map_cons, List.map_nil]); first | done | rfl) ?_; (with_reducible refine (replay_best.calls A0 c0 l0 a1 _ ?side1 HC.out).mono ?_); (case side1 => exact Kd.C_below HR.out (by repeat (first | (with_reducible first | exact HB.out | apply below_alloc | apply pw_below_drewN | apply below_drew1) | exact HB.out))); rintro e w2 ⟨B, m, rfl, hM, hBs, hb⟩; refine ⟨_, rfl, ?_⟩; obtain ⟨f, hF, hfg⟩ := hM; have HF := Aside0.mk hF; have HFG := Aside0.mk hfg; have n1_ := Aside0.mk (below_step (by repeat (first | (with_reducible first | exact HB.out | apply below_alloc | apply pw_below_drewN | apply below_drew1) | exact HB.out)) hb); clear HB; have HB := n1_; clear n1_ hb hF hfg hBs))
      go_loopg [6, 20] (l0.length + 1) (fun kq v6 v20 w' => ∃ i : Nat, v20 = .int .i64 (i : Int) ∧ Aside0 (kq + i = l0.length + 1 ∧ i ≤ l0.length) ∧ Aside0 (Kd.R (Kd.int .i64) 3 w' w.heap.size (fun k_ => k_ ≠ B) v6 (staleRaw (bestF l0 a1) a1 (l0.take i))) ∧ Aside0 (mapF w' Try.prog 3 B m f) ∧ Aside0 (Below w.heap.size w w'))
      case atStart => exact ⟨0, rfl, ⟨by omega, by omega⟩, ⟨Kd.R_nil _ _ _ _ _⟩, HF, HB⟩
      case round =>
        clear HF HB
        obtain ⟨i, rfl, HI, HO, HF, HB⟩ := hrel
        cases gk with
        | zero => have := HI.out; omega
        | succ k1 =>
          by_cases c3 : (i : Int) < (l0.length : Int)
          · have c3b : decide ((i : Int) < (l0.length : Int)) = true := decide_eq_true c3
            have hi : i < l0.length := by omega
            have p1 : 0 ≤ (i : Int) := by omega
            obtain ⟨ad, e, hx0, hx1, hx2, hx3, hx4⟩ := at_T27 HR.out (i : Int) p1 c3
            cases e
            simp only [Int.toNat_natCast] at hx0 hx1 hx2 hx3 hx4
            have HS := Aside0.mk (raw_step (bestF l0 a1) a1 l0 i hi)
            obtain ⟨x, ex⟩ : ∃ x, x = rd_T27 l0 (i : Int) := ⟨_, rfl⟩
            rw [← ex] at hx0 hx1 hx2 hx3 hx4
            rw [← ex] at HS
            clear ex
            replace hx0 := (HB.out.cell (World.block_lt_of_cell? w _ hx0)).trans hx0
            replace hx1 := (HB.out.cell (World.block_lt_of_cell? w _ hx1)).trans hx1
            replace hx2 := (HB.out.cell (World.block_lt_of_cell? w _ hx2)).trans hx2
            replace hx3 := (HB.out.cell (World.block_lt_of_cell? w _ hx3)).trans hx3
            replace hx4 := (HB.out.cell (World.block_lt_of_cell? w _ hx4)).trans hx4
            have HI' := Aside0.mk hi
            have EW := Aside0.mk (show wrap64 ((i : Int) + 1) = ((i + 1 : Nat) : Int) from by have := HLB.out; rw [wrap64]; omega)
            clear hi
            replace p1 := eq_true p1
            have q1 := eq_true c3
            by_cases c4' : fcnt x a1 = true
            · have FC := Aside0.mk (show replay_counts.f x.f0 x.f1.f0 x.f1.f1 x.f1.f2 x.f2 a1 = some true from by rw [fcnt_is, c4'])
              have WK := Aside0.mk (show (Lit.int .i64 x.f1.f1).wf = true from by unfold fcnt at c4'; have := of_decide_eq_true c4'; have := C12.out; exact WalkArith.wf_i64 (by omega))
              obtain ⟨s, es⟩ : ∃ s, s = (bestF l0 a1 x.f1.f1).getD z27 := ⟨_, rfl⟩
              have FK := Aside0.mk (show (f x.f1.f1).getD (.agg #[.int .i64 0, .int .i64 0, .int .i64 0, .int .i64 0, .slice none 0 0]) = .agg #[.int .i64 s.f0, .int .i64 s.f1.f0, .int .i64 s.f1.f1, .int .i64 s.f1.f2, .slice s.f2.a s.f2.n s.f2.c] from by
                rw [es]
                rcases HFG.out x.f1.f1 with ⟨q1, q2⟩ | ⟨v_, s_, q1, q2, q3⟩
                · rw [q1, q2]; rfl
                · rw [q1, q2]; exact q3)
              rw [if_pos c4', ← es] at HS
              clear es c4'
              by_cases c6 : fnew s x = true
              · have FN := Aside0.mk (show replay_newer.f s.f0 s.f1.f0 s.f1.f1 s.f1.f2 s.f2 x.f0 x.f1.f0 x.f1.f1 x.f1.f2 x.f2 = some true from by rw [fnew_is, c6])
                rw [if_pos c6] at HS
                clear c6
                go_wp2_with (first
                  | ((with_reducible refine gate_dst (N := 8) rfl ?_); refine box_event ?hg (N := 8) ?hd (cs := #[.int .i64 0, .int .i64 0, .int .i64 0, .int .i64 0, .slice none 0 0]) (t := 27) ?hr ?_; (case hd => rfl); (case hg => rfl); (case hr => first | (go_simp; done) | (go_simp; rfl)); intro g8 hg w3 hbox hb; have NE8 := Aside0.mk (show B ≠ g8 from by rw [hg]; have := HF.out.lt; omega); have GE8 := Aside0.mk (show w.heap.size ≤ g8 from by rw [hg]; exact below_size (by repeat (first | (with_reducible first | exact HB.out | apply below_alloc | apply pw_below_drewN | apply below_drew1) | exact HB.out))); have n0_ := Aside0.mk (HF.out.below hb); have n1_ := Aside0.mk (below_step (by repeat (first | (with_reducible first | exact HB.out | apply below_alloc | apply pw_below_drewN | apply below_drew1) | exact HB.out)) hb); have n2_ := Aside0.mk (Kd.R_below HO.out hb); have BK8 := Aside0.mk hbox; clear HF HB HO; have HF := n0_; have HB := n1_; have HO := n2_; clear n0_ n1_ n2_ hb hbox hg; have hz8_0 : w3.cell? ⟨g8, 0, none⟩ = some (.int .i64 0) := (blk_cell BK8.out 0).trans rfl; have hz8_1 : w3.cell? ⟨g8, 1, none⟩ = some (.int .i64 0) := (blk_cell BK8.out 1).trans rfl; have hz8_2 : w3.cell? ⟨g8, 2, none⟩ = some (.int .i64 0) := (blk_cell BK8.out 2).trans rfl; have hz8_3 : w3.cell? ⟨g8, 3, none⟩ = some (.int .i64 0) := (blk_cell BK8.out 3).trans rfl; have hz8_4 : w3.cell? ⟨g8, 4, none⟩ = some (.slice none 0 0) := (blk_cell BK8.out 4).trans rfl; have hfz8_0 := blk_frozen BK8.out 0; have hfz8_1 := blk_frozen BK8.out 1; have hfz8_2 := blk_frozen BK8.out 2; have hfz8_3 := blk_frozen BK8.out 3; have hfz8_4 := blk_frozen BK8.out 4)
                  | ((with_reducible refine gate_callee (f := 17) rfl ?_); refine goesL_ (some 26) rfl rfl Try.func17 (by kernel_rfl) rfl #[.agg #[.int .i64 x.f0, .int .i64 x.f1.f0, .int .i64 x.f1.f1, .int .i64 x.f1.f2, .slice x.f2.a x.f2.n x.f2.c], .int .i64 a1] rfl (by (try simp only [List.map_toArray, List.map_cons, List.map_nil]); first | done | rfl) ?_; (with_reducible refine (replay_counts.calls x.f0 x.f1.f0 x.f1.f1 x.f1.f2 x.f2 a1 _ _ FC.out).mono ?_); rintro e w4 ⟨rfl, hb⟩; refine ⟨_, rfl, ?_⟩; have n0_ := Aside0.mk ((mapF_set5 HF.out NE8.out (.int .i64 x.f0) (.int .i64 x.f1.f0) (.int .i64 x.f1.f1) (.int .i64 x.f1.f2) (.slice x.f2.a x.f2.n x.f2.c)).below hb); have n3_ := Aside0.mk (Kd.R_below (Kd.R_set (Kd.R_set (Kd.R_set (Kd.R_set (Kd.R_set HO.out BK8.out (by decide) 0 (.int .i64 x.f0)) (blk_set BK8.out 0 (.int .i64 x.f0)) (by decide) 1 (.int .i64 x.f1.f0)) (blk_set (blk_set BK8.out 0 (.int .i64 x.f0)) 1 (.int .i64 x.f1.f0)) (by decide) 2 (.int .i64 x.f1.f1)) (blk_set (blk_set (blk_set BK8.out 0 (.int .i64 x.f0)) 1 (.int .i64 x.f1.f0)) 2 (.int .i64 x.f1.f1)) (by decide) 3 (.int .i64 x.f1.f2)) (blk_set (blk_set (blk_set (blk_set BK8.out 0 (.int .i64 x.f0)) 1 (.int .i64 x.f1.f0)) 2 (.int .i64 x.f1.f1)) 3 (.int .i64 x.f1.f2)) (by decide) 4 (.slice x.f2.a x.f2.n x.f2.c)) hb); have n1_ := Aside0.mk (blk_below (blk5 BK8.out (.int .i64 x.f0) (.int .i64 x.f1.f0) (.int .i64 x.f1.f1) (.int .i64 x.f1.f2) (.slice x.f2.a x.f2.n x.f2.c)) hb); have n2_ := Aside0.mk (below_step (by repeat (first | (with_reducible first | exact HB.out | apply below_alloc | apply pw_below_drewN | apply below_drew1 | refine below_set ?_ GE8.out) | exact HB.out)) hb); clear HF HO BK8 HB; have HF := n0_; have HO := n3_; have BK8 := n1_; have HB := n2_; clear n0_ n1_ n2_ n3_ hb; have hy8_0 : w4.cell? ⟨g8, 0, none⟩ = some (.int .i64 x.f0) := (blk_cell BK8.out 0).trans rfl; have hy8_1 : w4.cell? ⟨g8, 1, none⟩ = some (.int .i64 x.f1.f0) := (blk_cell BK8.out 1).trans rfl; have hy8_2 : w4.cell? ⟨g8, 2, none⟩ = some (.int .i64 x.f1.f1) := (blk_cell BK8.out 2).trans rfl; have hy8_3 : w4.cell? ⟨g8, 3, none⟩ = some (.int .i64 x.f1.f2) := (blk_cell BK8.out 3).trans rfl; have hy8_4 : w4.cell? ⟨g8, 4, none⟩ = some (.slice x.f2.a x.f2.n x.f2.c) := (blk_cell BK8.out 4).trans rfl; have hfy8_0 := blk_frozen BK8.out 0; have hfy8_1 := blk_frozen BK8.out 1; have hfy8_2 := blk_frozen BK8.out 2; have hfy8_3 := blk_frozen BK8.out 3; have hfy8_4 := blk_frozen BK8.out 4)
                  | (at_lookup; (try (refine gate_guard (by rfl) ?_; dsimp only)); refine mapF_look _ rfl _ _ 42 false rfl 3 27 Try.underlying3 Try.underlying42 (zero27 _) B m f rfl HF.out _ rfl WK.out ?_; simp only [Bool.false_eq_true, if_false]; rw [FK.out])
                  | ((with_reducible refine gate_callee (f := 18) rfl ?_); (try (refine gate_guard (by rfl) ?_; dsimp only)); refine goesL_ (some 34) rfl rfl Try.func18 (by kernel_rfl) rfl #[.agg #[.int .i64 s.f0, .int .i64 s.f1.f0, .int .i64 s.f1.f1, .int .i64 s.f1.f2, .slice s.f2.a s.f2.n s.f2.c], .agg #[.int .i64 x.f0, .int .i64 x.f1.f0, .int .i64 x.f1.f1, .int .i64 x.f1.f2, .slice x.f2.a x.f2.n x.f2.c]] rfl (by (try simp only [List.map_toArray, List.map_cons, List.map_nil]); first | done | rfl) ?_; (with_reducible refine (replay_newer.calls s.f0 s.f1.f0 s.f1.f1 s.f1.f2 s.f2 x.f0 x.f1.f0 x.f1.f1 x.f1.f2 x.f2 _ _ FN.out).mono ?_); rintro e w5 ⟨rfl, hb⟩; refine ⟨_, rfl, ?_⟩; have n0_ := Aside0.mk (HF.out.below hb); have n3_ := Aside0.mk (Kd.R_below HO.out hb); have n1_ := Aside0.mk (blk_below BK8.out hb); have n2_ := Aside0.mk (below_step (by repeat (first | (with_reducible first | exact HB.out | apply below_alloc | apply pw_below_drewN | apply below_drew1) | exact HB.out)) hb); clear HF HO BK8 HB; have HF := n0_; have HO := n3_; have BK8 := n1_; have HB := n2_; clear n0_ n1_ n2_ n3_ hb; have hr8_0 : w5.cell? ⟨g8, 0, none⟩ = some (.int .i64 x.f0) := (blk_cell BK8.out 0).trans rfl; have hr8_1 : w5.cell? ⟨g8, 1, none⟩ = some (.int .i64 x.f1.f0) := (blk_cell BK8.out 1).trans rfl; have hr8_2 : w5.cell? ⟨g8, 2, none⟩ = some (.int .i64 x.f1.f1) := (blk_cell BK8.out 2).trans rfl; have hr8_3 : w5.cell? ⟨g8, 3, none⟩ = some (.int .i64 x.f1.f2) := (blk_cell BK8.out 3).trans rfl; have hr8_4 : w5.cell? ⟨g8, 4, none⟩ = some (.slice x.f2.a x.f2.n x.f2.c) := (blk_cell BK8.out 4).trans rfl; have hfr8_0 := blk_frozen BK8.out 0; have hfr8_1 := blk_frozen BK8.out 1; have hfr8_2 := blk_frozen BK8.out 2; have hfr8_3 := blk_frozen BK8.out 3; have hfr8_4 := blk_frozen BK8.out 4)
                  | ((with_reducible refine gate_builtin (b := .append) (xs := #[.tmp 36, .tmp 39]) rfl ?_); at_builtin; refine Kd.R_append (Kd.int .i64) (w0 := w) w.heap.size rfl (.tmp 36) (.tmp 39) 36 3 (.int .i64 0) 8 rfl Try.underlying36 info3 rfl (by decide) (by omega) u6 (staleRaw (bestF l0 a1) a1 (l0.take i)) x.f0 [.int .i64 x.f0] (fun k_ => k_ ≠ B) (fun _ => False) rfl rfl rfl (fun _ h_ => h_.elim) ?aF HO.out HB.out (below_size HB.out) ?aL ?_; (case aF => intro k_ hk_ e_; have := HF.out.lt; omega); (case aL => have := HLB.out; have := raw_len (bestF l0 a1) a1 (l0.take i); have := HI'.out; rw [List.length_take] at *; omega); intro v7 w6 ho hb hg hat; have HO2 := Aside0.mk ho; have HB2 := Aside0.mk hb; have HF2 := Aside0.mk (HF.out.kept hg (fun e_ => HO.out.1 B e_.symm rfl)); clear ho hb hg hat))
                go_roundg k1
                case measure => omega
                case rel => exact ⟨i + 1, congrArg (Value.int .i64) EW.out, ⟨by have := HI.out; omega, by have := HI'.out; omega⟩, ⟨by rw [HS.out]; exact HO2.out⟩, HF2, HB2⟩
              · have c7 : fnew s x = false := by simpa using c6
                have FN := Aside0.mk (show replay_newer.f s.f0 s.f1.f0 s.f1.f1 s.f1.f2 s.f2 x.f0 x.f1.f0 x.f1.f1 x.f1.f2 x.f2 = some false from by rw [fnew_is, c7])
                rw [if_neg c6, List.append_nil] at HS
                clear c6 c7
                go_wp2_with (first
                  | ((with_reducible refine gate_dst (N := 8) rfl ?_); refine box_event ?hg (N := 8) ?hd (cs := #[.int .i64 0, .int .i64 0, .int .i64 0, .int .i64 0, .slice none 0 0]) (t := 27) ?hr ?_; (case hd => rfl); (case hg => rfl); (case hr => first | (go_simp; done) | (go_simp; rfl)); intro g8 hg w3 hbox hb; have NE8 := Aside0.mk (show B ≠ g8 from by rw [hg]; have := HF.out.lt; omega); have GE8 := Aside0.mk (show w.heap.size ≤ g8 from by rw [hg]; exact below_size (by repeat (first | (with_reducible first | exact HB.out | apply below_alloc | apply pw_below_drewN | apply below_drew1) | exact HB.out))); have n0_ := Aside0.mk (HF.out.below hb); have n1_ := Aside0.mk (below_step (by repeat (first | (with_reducible first | exact HB.out | apply below_alloc | apply pw_below_drewN | apply below_drew1) | exact HB.out)) hb); have n2_ := Aside0.mk (Kd.R_below HO.out hb); have BK8 := Aside0.mk hbox; clear HF HB HO; have HF := n0_; have HB := n1_; have HO := n2_; clear n0_ n1_ n2_ hb hbox hg; have hz8_0 : w3.cell? ⟨g8, 0, none⟩ = some (.int .i64 0) := (blk_cell BK8.out 0).trans rfl; have hz8_1 : w3.cell? ⟨g8, 1, none⟩ = some (.int .i64 0) := (blk_cell BK8.out 1).trans rfl; have hz8_2 : w3.cell? ⟨g8, 2, none⟩ = some (.int .i64 0) := (blk_cell BK8.out 2).trans rfl; have hz8_3 : w3.cell? ⟨g8, 3, none⟩ = some (.int .i64 0) := (blk_cell BK8.out 3).trans rfl; have hz8_4 : w3.cell? ⟨g8, 4, none⟩ = some (.slice none 0 0) := (blk_cell BK8.out 4).trans rfl; have hfz8_0 := blk_frozen BK8.out 0; have hfz8_1 := blk_frozen BK8.out 1; have hfz8_2 := blk_frozen BK8.out 2; have hfz8_3 := blk_frozen BK8.out 3; have hfz8_4 := blk_frozen BK8.out 4)
                  | ((with_reducible refine gate_callee (f := 17) rfl ?_); refine goesL_ (some 26) rfl rfl Try.func17 (by kernel_rfl) rfl #[.agg #[.int .i64 x.f0, .int .i64 x.f1.f0, .int .i64 x.f1.f1, .int .i64 x.f1.f2, .slice x.f2.a x.f2.n x.f2.c], .int .i64 a1] rfl (by (try simp only [List.map_toArray, List.map_cons, List.map_nil]); first | done | rfl) ?_; (with_reducible refine (replay_counts.calls x.f0 x.f1.f0 x.f1.f1 x.f1.f2 x.f2 a1 _ _ FC.out).mono ?_); rintro e w4 ⟨rfl, hb⟩; refine ⟨_, rfl, ?_⟩; have n0_ := Aside0.mk ((mapF_set5 HF.out NE8.out (.int .i64 x.f0) (.int .i64 x.f1.f0) (.int .i64 x.f1.f1) (.int .i64 x.f1.f2) (.slice x.f2.a x.f2.n x.f2.c)).below hb); have n3_ := Aside0.mk (Kd.R_below (Kd.R_set (Kd.R_set (Kd.R_set (Kd.R_set (Kd.R_set HO.out BK8.out (by decide) 0 (.int .i64 x.f0)) (blk_set BK8.out 0 (.int .i64 x.f0)) (by decide) 1 (.int .i64 x.f1.f0)) (blk_set (blk_set BK8.out 0 (.int .i64 x.f0)) 1 (.int .i64 x.f1.f0)) (by decide) 2 (.int .i64 x.f1.f1)) (blk_set (blk_set (blk_set BK8.out 0 (.int .i64 x.f0)) 1 (.int .i64 x.f1.f0)) 2 (.int .i64 x.f1.f1)) (by decide) 3 (.int .i64 x.f1.f2)) (blk_set (blk_set (blk_set (blk_set BK8.out 0 (.int .i64 x.f0)) 1 (.int .i64 x.f1.f0)) 2 (.int .i64 x.f1.f1)) 3 (.int .i64 x.f1.f2)) (by decide) 4 (.slice x.f2.a x.f2.n x.f2.c)) hb); have n1_ := Aside0.mk (blk_below (blk5 BK8.out (.int .i64 x.f0) (.int .i64 x.f1.f0) (.int .i64 x.f1.f1) (.int .i64 x.f1.f2) (.slice x.f2.a x.f2.n x.f2.c)) hb); have n2_ := Aside0.mk (below_step (by repeat (first | (with_reducible first | exact HB.out | apply below_alloc | apply pw_below_drewN | apply below_drew1 | refine below_set ?_ GE8.out) | exact HB.out)) hb); clear HF HO BK8 HB; have HF := n0_; have HO := n3_; have BK8 := n1_; have HB := n2_; clear n0_ n1_ n2_ n3_ hb; have hy8_0 : w4.cell? ⟨g8, 0, none⟩ = some (.int .i64 x.f0) := (blk_cell BK8.out 0).trans rfl; have hy8_1 : w4.cell? ⟨g8, 1, none⟩ = some (.int .i64 x.f1.f0) := (blk_cell BK8.out 1).trans rfl; have hy8_2 : w4.cell? ⟨g8, 2, none⟩ = some (.int .i64 x.f1.f1) := (blk_cell BK8.out 2).trans rfl; have hy8_3 : w4.cell? ⟨g8, 3, none⟩ = some (.int .i64 x.f1.f2) := (blk_cell BK8.out 3).trans rfl; have hy8_4 : w4.cell? ⟨g8, 4, none⟩ = some (.slice x.f2.a x.f2.n x.f2.c) := (blk_cell BK8.out 4).trans rfl; have hfy8_0 := blk_frozen BK8.out 0; have hfy8_1 := blk_frozen BK8.out 1; have hfy8_2 := blk_frozen BK8.out 2; have hfy8_3 := blk_frozen BK8.out 3; have hfy8_4 := blk_frozen BK8.out 4)
                  | (at_lookup; (try (refine gate_guard (by rfl) ?_; dsimp only)); refine mapF_look _ rfl _ _ 42 false rfl 3 27 Try.underlying3 Try.underlying42 (zero27 _) B m f rfl HF.out _ rfl WK.out ?_; simp only [Bool.false_eq_true, if_false]; rw [FK.out])
                  | ((with_reducible refine gate_callee (f := 18) rfl ?_); (try (refine gate_guard (by rfl) ?_; dsimp only)); refine goesL_ (some 34) rfl rfl Try.func18 (by kernel_rfl) rfl #[.agg #[.int .i64 s.f0, .int .i64 s.f1.f0, .int .i64 s.f1.f1, .int .i64 s.f1.f2, .slice s.f2.a s.f2.n s.f2.c], .agg #[.int .i64 x.f0, .int .i64 x.f1.f0, .int .i64 x.f1.f1, .int .i64 x.f1.f2, .slice x.f2.a x.f2.n x.f2.c]] rfl (by (try simp only [List.map_toArray, List.map_cons, List.map_nil]); first | done | rfl) ?_; (with_reducible refine (replay_newer.calls s.f0 s.f1.f0 s.f1.f1 s.f1.f2 s.f2 x.f0 x.f1.f0 x.f1.f1 x.f1.f2 x.f2 _ _ FN.out).mono ?_); rintro e w5 ⟨rfl, hb⟩; refine ⟨_, rfl, ?_⟩; have n0_ := Aside0.mk (HF.out.below hb); have n3_ := Aside0.mk (Kd.R_below HO.out hb); have n1_ := Aside0.mk (blk_below BK8.out hb); have n2_ := Aside0.mk (below_step (by repeat (first | (with_reducible first | exact HB.out | apply below_alloc | apply pw_below_drewN | apply below_drew1) | exact HB.out)) hb); clear HF HO BK8 HB; have HF := n0_; have HO := n3_; have BK8 := n1_; have HB := n2_; clear n0_ n1_ n2_ n3_ hb; have hr8_0 : w5.cell? ⟨g8, 0, none⟩ = some (.int .i64 x.f0) := (blk_cell BK8.out 0).trans rfl; have hr8_1 : w5.cell? ⟨g8, 1, none⟩ = some (.int .i64 x.f1.f0) := (blk_cell BK8.out 1).trans rfl; have hr8_2 : w5.cell? ⟨g8, 2, none⟩ = some (.int .i64 x.f1.f1) := (blk_cell BK8.out 2).trans rfl; have hr8_3 : w5.cell? ⟨g8, 3, none⟩ = some (.int .i64 x.f1.f2) := (blk_cell BK8.out 3).trans rfl; have hr8_4 : w5.cell? ⟨g8, 4, none⟩ = some (.slice x.f2.a x.f2.n x.f2.c) := (blk_cell BK8.out 4).trans rfl; have hfr8_0 := blk_frozen BK8.out 0; have hfr8_1 := blk_frozen BK8.out 1; have hfr8_2 := blk_frozen BK8.out 2; have hfr8_3 := blk_frozen BK8.out 3; have hfr8_4 := blk_frozen BK8.out 4))
                go_roundg k1
                case measure => omega
                case rel => exact ⟨i + 1, congrArg (Value.int .i64) EW.out, ⟨by have := HI.out; omega, by have := HI'.out; omega⟩, ⟨by rw [HS.out]; exact HO.out⟩, HF, HB⟩
            · have c5 : fcnt x a1 = false := by simpa using c4'
              have FC := Aside0.mk (show replay_counts.f x.f0 x.f1.f0 x.f1.f1 x.f1.f2 x.f2 a1 = some false from by rw [fcnt_is, c5])
              rw [if_neg c4', List.append_nil] at HS
              clear c4' c5
              go_wp2_with (first
                | ((with_reducible refine gate_dst (N := 8) rfl ?_); refine box_event ?hg (N := 8) ?hd (cs := #[.int .i64 0, .int .i64 0, .int .i64 0, .int .i64 0, .slice none 0 0]) (t := 27) ?hr ?_; (case hd => rfl); (case hg => rfl); (case hr => first | (go_simp; done) | (go_simp; rfl)); intro g8 hg w3 hbox hb; have NE8 := Aside0.mk (show B ≠ g8 from by rw [hg]; have := HF.out.lt; omega); have GE8 := Aside0.mk (show w.heap.size ≤ g8 from by rw [hg]; exact below_size (by repeat (first | (with_reducible first | exact HB.out | apply below_alloc | apply pw_below_drewN | apply below_drew1) | exact HB.out))); have n0_ := Aside0.mk (HF.out.below hb); have n1_ := Aside0.mk (below_step (by repeat (first | (with_reducible first | exact HB.out | apply below_alloc | apply pw_below_drewN | apply below_drew1) | exact HB.out)) hb); have n2_ := Aside0.mk (Kd.R_below HO.out hb); have BK8 := Aside0.mk hbox; clear HF HB HO; have HF := n0_; have HB := n1_; have HO := n2_; clear n0_ n1_ n2_ hb hbox hg; have hz8_0 : w3.cell? ⟨g8, 0, none⟩ = some (.int .i64 0) := (blk_cell BK8.out 0).trans rfl; have hz8_1 : w3.cell? ⟨g8, 1, none⟩ = some (.int .i64 0) := (blk_cell BK8.out 1).trans rfl; have hz8_2 : w3.cell? ⟨g8, 2, none⟩ = some (.int .i64 0) := (blk_cell BK8.out 2).trans rfl; have hz8_3 : w3.cell? ⟨g8, 3, none⟩ = some (.int .i64 0) := (blk_cell BK8.out 3).trans rfl; have hz8_4 : w3.cell? ⟨g8, 4, none⟩ = some (.slice none 0 0) := (blk_cell BK8.out 4).trans rfl; have hfz8_0 := blk_frozen BK8.out 0; have hfz8_1 := blk_frozen BK8.out 1; have hfz8_2 := blk_frozen BK8.out 2; have hfz8_3 := blk_frozen BK8.out 3; have hfz8_4 := blk_frozen BK8.out 4)
                | ((with_reducible refine gate_callee (f := 17) rfl ?_); refine goesL_ (some 26) rfl rfl Try.func17 (by kernel_rfl) rfl #[.agg #[.int .i64 x.f0, .int .i64 x.f1.f0, .int .i64 x.f1.f1, .int .i64 x.f1.f2, .slice x.f2.a x.f2.n x.f2.c], .int .i64 a1] rfl (by (try simp only [List.map_toArray, List.map_cons, List.map_nil]); first | done | rfl) ?_; (with_reducible refine (replay_counts.calls x.f0 x.f1.f0 x.f1.f1 x.f1.f2 x.f2 a1 _ _ FC.out).mono ?_); rintro e w4 ⟨rfl, hb⟩; refine ⟨_, rfl, ?_⟩; have n0_ := Aside0.mk ((mapF_set5 HF.out NE8.out (.int .i64 x.f0) (.int .i64 x.f1.f0) (.int .i64 x.f1.f1) (.int .i64 x.f1.f2) (.slice x.f2.a x.f2.n x.f2.c)).below hb); have n3_ := Aside0.mk (Kd.R_below (Kd.R_set (Kd.R_set (Kd.R_set (Kd.R_set (Kd.R_set HO.out BK8.out (by decide) 0 (.int .i64 x.f0)) (blk_set BK8.out 0 (.int .i64 x.f0)) (by decide) 1 (.int .i64 x.f1.f0)) (blk_set (blk_set BK8.out 0 (.int .i64 x.f0)) 1 (.int .i64 x.f1.f0)) (by decide) 2 (.int .i64 x.f1.f1)) (blk_set (blk_set (blk_set BK8.out 0 (.int .i64 x.f0)) 1 (.int .i64 x.f1.f0)) 2 (.int .i64 x.f1.f1)) (by decide) 3 (.int .i64 x.f1.f2)) (blk_set (blk_set (blk_set (blk_set BK8.out 0 (.int .i64 x.f0)) 1 (.int .i64 x.f1.f0)) 2 (.int .i64 x.f1.f1)) 3 (.int .i64 x.f1.f2)) (by decide) 4 (.slice x.f2.a x.f2.n x.f2.c)) hb); have n1_ := Aside0.mk (blk_below (blk5 BK8.out (.int .i64 x.f0) (.int .i64 x.f1.f0) (.int .i64 x.f1.f1) (.int .i64 x.f1.f2) (.slice x.f2.a x.f2.n x.f2.c)) hb); have n2_ := Aside0.mk (below_step (by repeat (first | (with_reducible first | exact HB.out | apply below_alloc | apply pw_below_drewN | apply below_drew1 | refine below_set ?_ GE8.out) | exact HB.out)) hb); clear HF HO BK8 HB; have HF := n0_; have HO := n3_; have BK8 := n1_; have HB := n2_; clear n0_ n1_ n2_ n3_ hb; have hy8_0 : w4.cell? ⟨g8, 0, none⟩ = some (.int .i64 x.f0) := (blk_cell BK8.out 0).trans rfl; have hy8_1 : w4.cell? ⟨g8, 1, none⟩ = some (.int .i64 x.f1.f0) := (blk_cell BK8.out 1).trans rfl; have hy8_2 : w4.cell? ⟨g8, 2, none⟩ = some (.int .i64 x.f1.f1) := (blk_cell BK8.out 2).trans rfl; have hy8_3 : w4.cell? ⟨g8, 3, none⟩ = some (.int .i64 x.f1.f2) := (blk_cell BK8.out 3).trans rfl; have hy8_4 : w4.cell? ⟨g8, 4, none⟩ = some (.slice x.f2.a x.f2.n x.f2.c) := (blk_cell BK8.out 4).trans rfl; have hfy8_0 := blk_frozen BK8.out 0; have hfy8_1 := blk_frozen BK8.out 1; have hfy8_2 := blk_frozen BK8.out 2; have hfy8_3 := blk_frozen BK8.out 3; have hfy8_4 := blk_frozen BK8.out 4))
              go_roundg k1
              case measure => omega
              case rel => exact ⟨i + 1, congrArg (Value.int .i64) EW.out, ⟨by have := HI.out; omega, by have := HI'.out; omega⟩, ⟨by rw [HS.out]; exact HO.out⟩, HF, HB⟩
          · have c3b : decide ((i : Int) < (l0.length : Int)) = false := decide_eq_false c3
            have hi : i = l0.length := by have := HI.out; omega
            subst hi
            have n0_ := Aside0.mk (show Kd.R (Kd.int .i64) 3 wr w.heap.size (fun k_ => k_ ≠ B) u6 (staleRaw (bestF l0 a1) a1 l0) from by have := HO.out; rwa [List.take_length] at this)
            clear HO
            have HO := n0_
            clear n0_
            obtain ⟨Ao, co, eo⟩ := Kd.R_slice HO.out
            subst eo
            go_wp2_with (first
              | ((with_reducible refine gate_callee (f := 19) rfl ?_); refine goesL_ (some 43) rfl rfl Try.func19 (by kernel_rfl) rfl #[.slice Ao (staleRaw (bestF l0 a1) a1 l0).length co] rfl (by (try simp only [List.map_toArray, List.map_cons, List.map_nil]); first | done | rfl) ?_; (with_reducible refine (sort_row HO.out (by have := HLB.out; have := raw_len (bestF l0 a1) a1 l0; omega)).mono ?_); rintro e w7 ⟨rfl, hr, hbb⟩; refine ⟨_, rfl, ?_⟩; have n0_ := Aside0.mk hr; have n1_ := Aside0.mk (hbb _ _ HB.out (Nat.le_refl _)); clear HO HB; have HO := n0_; have HB := n1_; clear n0_ n1_ hr hbb)
              | ((with_reducible refine gate_callee (f := 20) rfl ?_); refine goesL_ (some 45) rfl rfl Try.func20 (by kernel_rfl) rfl #[.slice Ao (staleRaw (bestF l0 a1) a1 l0).length co] rfl (by (try simp only [List.map_toArray, List.map_cons, List.map_nil]); first | done | rfl) ?_; (with_reducible refine (compact_row HO.out).mono ?_); rintro e w8 ⟨v8, rfl, hr, hbb⟩; refine ⟨_, rfl, ?_⟩; have n0_ := Aside0.mk hr; have n1_ := Aside0.mk (hbb _ _ HB.out (Nat.le_refl _)); clear HO HB; have HO := n0_; have HB := n1_; clear n0_ n1_ hr hbb))
            have HO9 := Aside0.mk (Kd.R_mono HO.out (fun _ _ => trivial) : Kd.R (Kd.int .i64) 3 w8 w.heap.size (fun _ => True) v8 (Lib.compact ((staleRaw (bestF l0 a1) a1 l0).mergeSort fun x y => decide (x ≤ y))))
            rw [H1.out] at HO9
            go_ret
            exact ⟨_, rfl, HO9.out, HB.out⟩

end Go.Proofs.Ytlheknapgonakaa.X
