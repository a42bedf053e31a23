-- laid by wip/tools/xprint.py (our own changes over the printer)
import Derived.Test.YtlheknapgonakaaX0
import Derived.Test.YtlheknapgonakaaX2
import Derived.Test.YtlheknapgonakaaX3
import Derived.Test.YtlheknapgonakaaX4
import Derived.Test.YtlheknapgonakaaMapF
import Derived.Maps.OwnOps
namespace Go.Proofs.Ytlheknapgonakaa.X
open Go.RowKit Go.Proofs.YtlheknapgonakaaW.PrintWords Go.Proofs.YtlheknapgonakaaW.PrintLast Go.Proofs.YtlheknapgonakaaW.PrintMore
attribute [local go_sem] max2_int min2_int max_two min_two max_three min_three max_four min_four   -- for this text's walks alone
set_option linter.unusedVariables false
set_option linter.unusedSimpArgs false

/-! ### replay_Newest: function 9 -/
open Go.Proofs.Ytlheknapgonakaa.Plain
/-- does one of what was found count? -/
def fcnt (x : S27) (n : Int) : Bool := decide ((x.f1.f0 = 1 ∨ x.f1.f0 = 2) ∧ 0 ≤ x.f1.f1 ∧ x.f1.f1 < n ∧ 1 ≤ x.f1.f2 ∧ x.f1.f2 ≤ 1125899906842624 ∧ 0 ≤ x.f0)
/-- is it newer than another one? -/
def fnew (a b : S27) : Bool := decide (b.f1.f2 < a.f1.f2 ∨ (b.f1.f2 = a.f1.f2 ∧ b.f0 < a.f0))
theorem fcnt_is (x : S27) (n : Int) : replay_counts.f x.f0 x.f1.f0 x.f1.f1 x.f1.f2 x.f2 n = some (fcnt x n) := by
  unfold replay_counts.f fcnt
  repeat' split
  all_goals (refine congrArg some ?_; first | (refine Eq.symm (decide_eq_false ?_); omega) | (refine decide_eq_decide.2 ?_; omega))
theorem fnew_is (a b : S27) : replay_newer.f a.f0 a.f1.f0 a.f1.f1 a.f1.f2 a.f2 b.f0 b.f1.f0 b.f1.f1 b.f1.f2 b.f2 = some (fnew a b) := by
  unfold replay_newer.f oob_Newer.f fnew
  simp only [Option.bind_some]
  by_cases h1 : a.f1.f2 > b.f1.f2
  · rw [decide_eq_true h1, if_pos rfl]
    exact congrArg some (Eq.symm (decide_eq_true (Or.inl h1)))
  · rw [decide_eq_false h1, if_neg (by decide)]
    by_cases h2 : b.f1.f2 > a.f1.f2
    · rw [decide_eq_true h2, if_pos rfl]
      exact congrArg some (Eq.symm (decide_eq_false (by omega)))
    · rw [decide_eq_false h2, if_neg (by decide)]
      exact congrArg some (decide_eq_decide.2 (by omega))
def bestStep (n : Int) (g : Int → Option S27) (x : S27) : Int → Option S27 :=
  if fcnt x n = true then (match g x.f1.f1 with
    | none => fun y => if y = x.f1.f1 then some x else g y
    | some o => if fnew x o = true then fun y => if y = x.f1.f1 then some x else g y else g) else g
/-- the newest ones, by their sectors -/
def bestF (l : List S27) (n : Int) : Int → Option S27 := if n < 1 then fun _ => none else if 4096 < n then fun _ => none else l.foldl (bestStep n) (fun _ => none)
/-- its value, whose bytes lie in the world w -/
def repsV (w : World) (v : Value) (x : S27) : Prop := v = .agg #[.int .i64 x.f0, .int .i64 x.f1.f0, .int .i64 x.f1.f1, .int .i64 x.f1.f2, .slice x.f2.a x.f2.n x.f2.c]
def mapB (w0 w : World) (B m : Nat) (g : Int → Option S27) : Prop := ∃ f, mapF w Try.prog 3 B m f ∧ ∀ y, (f y = none ∧ g y = none) ∨ ∃ v s, f y = some v ∧ g y = some s ∧ repsV w0 v s
theorem mapB.setCell {w0 w : World} {B m : Nat} {g : Int → Option S27} (h : mapB w0 w B m g) {p : Addr} (hne : B ≠ p.block) (u : Value) : mapB w0 (w.setCell p u) B m g := by
  obtain ⟨f, h1, h2⟩ := h
  exact ⟨f, h1.setCell hne u, h2⟩
theorem mapB.below {w0 w w' : World} {B m : Nat} {g : Int → Option S27} (h : mapB w0 w B m g) (hb : Below w.heap.size w w') : mapB w0 w' B m g := by
  obtain ⟨f, h1, h2⟩ := h
  exact ⟨f, h1.below hb, h2⟩
theorem mapB.set5 {w0 w : World} {B m : Nat} {g : Int → Option S27} (h : mapB w0 w B m g) {b : Nat} (hne : B ≠ b) (u0 u1 u2 u3 u4 : Value) :
    mapB w0 (((((w.setCell ⟨b, 0, none⟩ u0).setCell ⟨b, 1, none⟩ u1).setCell ⟨b, 2, none⟩ u2).setCell ⟨b, 3, none⟩ u3).setCell ⟨b, 4, none⟩ u4) B m g :=
  ((((h.setCell hne u0).setCell hne u1).setCell hne u2).setCell hne u3).setCell hne u4
theorem blk5 {w : World} {b : Nat} {t : TypeId} {x0 x1 x2 x3 x4 : Value} (h : w.heap[b]? = some (.cells #[x0, x1, x2, x3, x4] t (0, 0))) (u0 u1 u2 u3 u4 : Value) :
    (((((w.setCell ⟨b, 0, none⟩ u0).setCell ⟨b, 1, none⟩ u1).setCell ⟨b, 2, none⟩ u2).setCell ⟨b, 3, none⟩ u3).setCell ⟨b, 4, none⟩ u4).heap[b]? = some (.cells #[u0, u1, u2, u3, u4] t (0, 0)) :=
  blk_set (blk_set (blk_set (blk_set (blk_set h 0 u0) 1 u1) 2 u2) 3 u3) 4 u4
theorem mapB.mono {w0 w : World} {B m m' : Nat} {g : Int → Option S27} (h : mapB w0 w B m g) (hm : m ≤ m') : mapB w0 w B m' g := by
  obtain ⟨f, h1, h2⟩ := h
  exact ⟨f, h1.mono hm, h2⟩
theorem mapB.lt {w0 w : World} {B m : Nat} {g : Int → Option S27} (h : mapB w0 w B m g) : B < w.heap.size := by
  obtain ⟨f, h1, h2⟩ := h
  exact h1.lt
theorem mapF_set5 {w : World} {P : Program} {k : TypeId} {B n : Nat} {f : Int → Option Value} (h : mapF w P k B n f) {b : Nat} (hne : B ≠ b) (u0 u1 u2 u3 u4 : Value) :
    mapF (((((w.setCell ⟨b, 0, none⟩ u0).setCell ⟨b, 1, none⟩ u1).setCell ⟨b, 2, none⟩ u2).setCell ⟨b, 3, none⟩ u3).setCell ⟨b, 4, none⟩ u4) P k B n f :=
  ((((h.setCell hne u0).setCell hne u1).setCell hne u2).setCell hne u3).setCell hne u4
theorem map_put {w0 w : World} {B m : Nat} {f : Int → Option Value} {g : Int → Option S27} {key : Int} {v : Value} {x : S27} (h : mapF w Try.prog 3 B m (fun y => if y = key then some v else f y)) (hg : ∀ y, (f y = none ∧ g y = none) ∨ ∃ v s, f y = some v ∧ g y = some s ∧ repsV w0 v s) (hr : repsV w0 v x) :
    mapB w0 w B m (fun y => if y = key then some x else g y) := by
  refine ⟨_, h, fun y => ?_⟩
  by_cases e : y = key
  · right
    exact ⟨v, x, by simp [e], by simp [e], hr⟩
  · rcases hg y with ⟨h1, h2⟩ | ⟨v', s', h1, h2, h3⟩
    · left; exact ⟨by simp [e, h1], by simp [e, h2]⟩
    · right; exact ⟨v', s', by simp [e, h1], by simp [e, h2], h3⟩
theorem repsV_mk (w : World) (x : S27) : repsV w (.agg #[.int .i64 x.f0, .int .i64 x.f1.f0, .int .i64 x.f1.f1, .int .i64 x.f1.f2, .slice x.f2.a x.f2.n x.f2.c]) x := rfl
theorem below_grown {w w1 w2 : World} (h : Below w.heap.size w w1) (hg : w1.grownBy w2 (some w.heap.size)) : Below w.heap.size w w2 :=
  ⟨hg.os.trans h.os, hg.tape.trans h.tape, hg.output.trans h.output, Nat.le_trans h.size hg.size, fun k hk =>
    (hg.block k (Nat.lt_of_lt_of_le hk h.size) (by intro e; cases e; omega)).trans (h.block k hk)⟩
theorem blk_far5 {w : World} {b c : Nat} {o : Array Value} {t : TypeId} (h : w.heap[b]? = some (.cells o t (0, 0))) (hne : b ≠ c) (u0 u1 u2 u3 u4 : Value) :
    (((((w.setCell ⟨c, 0, none⟩ u0).setCell ⟨c, 1, none⟩ u1).setCell ⟨c, 2, none⟩ u2).setCell ⟨c, 3, none⟩ u3).setCell ⟨c, 4, none⟩ u4).heap[b]? = some (.cells o t (0, 0)) :=
  blk_far (blk_far (blk_far (blk_far (blk_far h (p := ⟨c, 0, none⟩) hne u0) (p := ⟨c, 1, none⟩) hne u1) (p := ⟨c, 2, none⟩) hne u2) (p := ⟨c, 3, none⟩) hne u3) (p := ⟨c, 4, none⟩) hne u4
theorem zero27 (w : World) : (zeroValue 27).run Try.prog w = .ok (.agg #[.int .i64 0, .int .i64 0, .int .i64 0, .int .i64 0, .slice none 0 0]) w := by kernel_rfl

theorem step_no {n : Int} {g : Int → Option S27} {x : S27} (h : fcnt x n = false) : bestStep n g x = g := by
  unfold bestStep; rw [if_neg (by rw [h]; decide)]
theorem take_step {β : Type} (f : β → S27 → β) (b : β) (l : List S27) (i : Nat) (h : i < l.length) : (l.take (i + 1)).foldl f b = f ((l.take i).foldl f b) (rd_T27 l (i : Int)) := by
  rw [List.take_succ_eq_append_getElem h, List.foldl_append]
  simp [rd_T27, h]
set_option maxHeartbeats 8000000 in
set_option maxRecDepth 100000 in
theorem replay_best.calls (A : Option Addr) (c : Nat) (l : List S27) (n : Int) (w : World) (hr : Kd.C k27 w A l.length l) (hc : l.length ≤ c) :
    Calls Try.prog 15 #[.slice A l.length c, .int .i64 n] w fun e w' => ∃ B m, e = .returned (.map (some B)) ∧ mapB w w' B m (bestF l n) ∧ w.heap.size ≤ B ∧ Below w.heap.size w w' := by
  have hu27 := Try.underlying27
  have HR := Aside0.mk hr
  have HC := Aside0.mk hc
  have hlen : l.length ≤ 9223372036854775807 := hr.2.1
  have HL := Aside0.mk hlen
  clear hr hc hlen
  have hmm := @run_makeMap Try.prog
  have HB := Aside0.mk (Below.refl w.heap.size w)
  have HM : Aside0 (mapB w (w.alloc (.map #[] 0)) w.heap.size 0 (fun _ => none)) := Aside0.mk ⟨_, mapF_made w Try.prog 3, fun y => Or.inl ⟨rfl, rfl⟩⟩
  by_cases c1 : n < 1
  · have hb : bestF l n = fun _ => none := by unfold bestF; rw [if_pos c1]
    rw [hb]
    have c1b : decide (n < 1) = true := decide_eq_true c1
    clear c1 hb
    go_enter Try.func15, Try.ntmps15
    go_wp2
    go_ret
    exact ⟨_, _, rfl, HM.out, Nat.le_refl _, below_alloc HB.out _⟩
  · by_cases c2 : 4096 < n
    · have hb : bestF l n = fun _ => none := by unfold bestF; rw [if_neg c1, if_pos c2]
      rw [hb]
      have c1b : decide (n < 1) = false := decide_eq_false c1
      have c2b : decide (4096 < n) = true := decide_eq_true c2
      clear c1 c2 hb
      go_enter Try.func15, Try.ntmps15
      go_wp2
      go_ret
      exact ⟨_, _, rfl, HM.out, Nat.le_refl _, below_alloc HB.out _⟩
    · have hb : bestF l n = l.foldl (bestStep n) (fun _ => none) := by unfold bestF; rw [if_neg c1, if_neg c2]
      rw [hb]
      have c1b : decide (n < 1) = false := decide_eq_false c1
      have c2b : decide (4096 < n) = false := decide_eq_false c2
      have C1 := Aside0.mk c1
      have C2 := Aside0.mk c2
      clear c1 c2 hb
      go_enter Try.func15, Try.ntmps15
      go_wp2
      go_loopg [20] (l.length + 1) (fun kq v20 w' => ∃ i : Nat, v20 = .int .i64 (i : Int) ∧ Aside0 (kq + i = l.length + 1 ∧ i ≤ l.length) ∧ Aside0 (mapB w w' w.heap.size i ((l.take i).foldl (bestStep n) (fun _ => none))) ∧ Aside0 (Below w.heap.size w w'))
      case atStart => exact ⟨0, rfl, ⟨by omega, by omega⟩, HM, ⟨below_alloc HB.out _⟩⟩
      case round =>
        clear HM HB
        obtain ⟨i, rfl, HI, HM, HB⟩ := hrel
        cases gk with
        | zero => have := HI.out; omega
        | succ k1 =>
          by_cases c3 : (i : Int) < (l.length : Int)
          · have c3b : decide ((i : Int) < (l.length : Int)) = true := decide_eq_true c3
            have hi : i < l.length := by omega
            have p1 : 0 ≤ (i : Int) := by omega
            obtain ⟨ad, e, hx0, hx1, hx2, hx3, hx4⟩ := at_T27 HR.out (i : Int) p1 c3
            cases e
            simp only [Int.toNat_natCast] at hx0 hx1 hx2 hx3 hx4
            have HS := Aside0.mk (take_step (bestStep n) (fun _ => none) l i hi)
            obtain ⟨x, ex⟩ : ∃ x, x = rd_T27 l (i : Int) := ⟨_, rfl⟩
            rw [← ex] at hx0 hx1 hx2 hx3 hx4
            rw [← ex] at HS
            clear ex
            replace hx0 := (HB.out.cell (World.block_lt_of_cell? w _ hx0)).trans hx0
            replace hx1 := (HB.out.cell (World.block_lt_of_cell? w _ hx1)).trans hx1
            replace hx2 := (HB.out.cell (World.block_lt_of_cell? w _ hx2)).trans hx2
            replace hx3 := (HB.out.cell (World.block_lt_of_cell? w _ hx3)).trans hx3
            replace hx4 := (HB.out.cell (World.block_lt_of_cell? w _ hx4)).trans hx4
            have HI' := Aside0.mk hi
            have EW := Aside0.mk (show wrap64 ((i : Int) + 1) = ((i + 1 : Nat) : Int) from by have := HL.out; rw [wrap64]; omega)
            clear hi
            replace p1 := eq_true p1
            have q1 := eq_true c3
            obtain ⟨g, hg⟩ : ∃ g, g = (l.take i).foldl (bestStep n) (fun _ => none) := ⟨_, rfl⟩
            rw [← hg] at HM HS
            clear hg
            by_cases c4' : fcnt x n = true
            · have FC := Aside0.mk (show replay_counts.f x.f0 x.f1.f0 x.f1.f1 x.f1.f2 x.f2 n = some true from by rw [fcnt_is, c4'])
              have WK := Aside0.mk (show (Lit.int .i64 x.f1.f1).wf = true from by unfold fcnt at c4'; have := of_decide_eq_true c4'; have := C2.out; exact WalkArith.wf_i64 (by omega))
              have HS1 := Aside0.mk (show bestStep n g x = match g x.f1.f1 with | none => (fun y => if y = x.f1.f1 then some x else g y) | some o => if fnew x o = true then (fun y => if y = x.f1.f1 then some x else g y) else g from by unfold bestStep; rw [if_pos c4'])
              clear c4'
              obtain ⟨f, hF, hfg⟩ := HM.out
              have HF := Aside0.mk hF
              have HG := Aside0.mk hfg
              clear hF HM
              rcases hfg x.f1.f1 with ⟨k1_, k2_⟩ | ⟨v, s, k1_, k2_, (rfl : v = _)⟩
              · have FK := Aside0.mk k1_
                have HS2 := Aside0.mk (show (l.take (i + 1)).foldl (bestStep n) (fun _ => none) = (fun y => if y = x.f1.f1 then some x else g y) from by rw [HS.out, HS1.out, k2_])
                clear k1_ k2_ hfg HS1
                go_wp2_with (first
                  | ((with_reducible refine gate_dst (N := 7) rfl ?_); refine box_event ?hg (N := 7) ?hd (cs := #[.int .i64 0, .int .i64 0, .int .i64 0, .int .i64 0, .slice none 0 0]) (t := 27) ?hr ?_; (case hd => rfl); (case hg => rfl); (case hr => first | (go_simp; done) | (go_simp; rfl)); intro g7 hg w1 hbox hb; have NE7 := Aside0.mk (show w.heap.size ≠ g7 from by rw [hg]; have := HF.out.lt; omega); have GE7 := Aside0.mk (show w.heap.size ≤ g7 from by rw [hg]; exact below_size (by repeat (first | (with_reducible first | exact HB.out | apply below_alloc | apply pw_below_drewN | apply below_drew1) | exact HB.out))); have n0_ := Aside0.mk (HF.out.below hb); have n1_ := Aside0.mk (below_step (by repeat (first | (with_reducible first | exact HB.out | apply below_alloc | apply pw_below_drewN | apply below_drew1) | exact HB.out)) hb); have BK7 := Aside0.mk hbox; clear HF HB; have HF := n0_; have HB := n1_; clear n0_ n1_ hb hbox hg; have hz7_0 : w1.cell? ⟨g7, 0, none⟩ = some (.int .i64 0) := (blk_cell BK7.out 0).trans rfl; have hz7_1 : w1.cell? ⟨g7, 1, none⟩ = some (.int .i64 0) := (blk_cell BK7.out 1).trans rfl; have hz7_2 : w1.cell? ⟨g7, 2, none⟩ = some (.int .i64 0) := (blk_cell BK7.out 2).trans rfl; have hz7_3 : w1.cell? ⟨g7, 3, none⟩ = some (.int .i64 0) := (blk_cell BK7.out 3).trans rfl; have hz7_4 : w1.cell? ⟨g7, 4, none⟩ = some (.slice none 0 0) := (blk_cell BK7.out 4).trans rfl; have hfz7_0 := blk_frozen BK7.out 0; have hfz7_1 := blk_frozen BK7.out 1; have hfz7_2 := blk_frozen BK7.out 2; have hfz7_3 := blk_frozen BK7.out 3; have hfz7_4 := blk_frozen BK7.out 4)
                  | ((with_reducible refine gate_callee (f := 17) rfl ?_); refine goesL_ (some 26) rfl rfl Try.func17 (by kernel_rfl) rfl #[.agg #[.int .i64 x.f0, .int .i64 x.f1.f0, .int .i64 x.f1.f1, .int .i64 x.f1.f2, .slice x.f2.a x.f2.n x.f2.c], .int .i64 n] rfl (by (try simp only [List.map_toArray, List.map_cons, List.map_nil]); first | done | rfl) ?_; (with_reducible refine (replay_counts.calls x.f0 x.f1.f0 x.f1.f1 x.f1.f2 x.f2 n _ _ FC.out).mono ?_); rintro e w2 ⟨rfl, hb⟩; refine ⟨_, rfl, ?_⟩; have n0_ := Aside0.mk ((mapF_set5 HF.out NE7.out (.int .i64 x.f0) (.int .i64 x.f1.f0) (.int .i64 x.f1.f1) (.int .i64 x.f1.f2) (.slice x.f2.a x.f2.n x.f2.c)).below hb); have n1_ := Aside0.mk (blk_below (blk5 BK7.out (.int .i64 x.f0) (.int .i64 x.f1.f0) (.int .i64 x.f1.f1) (.int .i64 x.f1.f2) (.slice x.f2.a x.f2.n x.f2.c)) hb); have n2_ := Aside0.mk (below_step (by repeat (first | (with_reducible first | exact HB.out | apply below_alloc | apply pw_below_drewN | apply below_drew1 | refine below_set ?_ GE7.out) | exact HB.out)) hb); clear HF BK7 HB; have HF := n0_; have BK7 := n1_; have HB := n2_; clear n0_ n1_ n2_ hb; have hy7_0 : w2.cell? ⟨g7, 0, none⟩ = some (.int .i64 x.f0) := (blk_cell BK7.out 0).trans rfl; have hy7_1 : w2.cell? ⟨g7, 1, none⟩ = some (.int .i64 x.f1.f0) := (blk_cell BK7.out 1).trans rfl; have hy7_2 : w2.cell? ⟨g7, 2, none⟩ = some (.int .i64 x.f1.f1) := (blk_cell BK7.out 2).trans rfl; have hy7_3 : w2.cell? ⟨g7, 3, none⟩ = some (.int .i64 x.f1.f2) := (blk_cell BK7.out 3).trans rfl; have hy7_4 : w2.cell? ⟨g7, 4, none⟩ = some (.slice x.f2.a x.f2.n x.f2.c) := (blk_cell BK7.out 4).trans rfl; have hfy7_0 := blk_frozen BK7.out 0; have hfy7_1 := blk_frozen BK7.out 1; have hfy7_2 := blk_frozen BK7.out 2; have hfy7_3 := blk_frozen BK7.out 3; have hfy7_4 := blk_frozen BK7.out 4)
                  | (at_lookup; refine mapF_look _ rfl _ _ 42 true rfl 3 27 Try.underlying3 Try.underlying42 (zero27 _) w.heap.size i f rfl HF.out _ rfl WK.out ?_; rw [FK.out]; simp only [Option.getD_some, Option.getD_none, Option.isSome_some, Option.isSome_none, if_true])
                  | ((with_reducible refine gate_dst (N := 8) rfl ?_); refine box_event ?hg (N := 8) ?hd (cs := #[.int .i64 0, .int .i64 0, .int .i64 0, .int .i64 0, .slice none 0 0]) (t := 27) ?hr ?_; (case hd => rfl); (case hg => rfl); (case hr => first | (go_simp; done) | (go_simp; rfl)); intro g8 hg w3 hbox hb; have NE8 := Aside0.mk (show w.heap.size ≠ g8 from by rw [hg]; have := HF.out.lt; omega); have ne78 : g7 ≠ g8 := (by rw [hg]; have := blk_lt BK7.out; omega); have ne87 : g8 ≠ g7 := ne78.symm; have GE8 := Aside0.mk (show w.heap.size ≤ g8 from by rw [hg]; exact below_size (by repeat (first | (with_reducible first | exact HB.out | apply below_alloc | apply pw_below_drewN | apply below_drew1) | exact HB.out))); have n0_ := Aside0.mk (HF.out.below hb); have n1_ := Aside0.mk (below_step (by repeat (first | (with_reducible first | exact HB.out | apply below_alloc | apply pw_below_drewN | apply below_drew1) | exact HB.out)) hb); have n2_ := Aside0.mk (blk_below BK7.out hb); have BK8 := Aside0.mk hbox; clear HF HB BK7; have HF := n0_; have HB := n1_; have BK7 := n2_; clear n0_ n1_ n2_ hb hbox hg; have hq7_0 : w3.cell? ⟨g7, 0, none⟩ = some (.int .i64 x.f0) := (blk_cell BK7.out 0).trans rfl; have hq7_1 : w3.cell? ⟨g7, 1, none⟩ = some (.int .i64 x.f1.f0) := (blk_cell BK7.out 1).trans rfl; have hq7_2 : w3.cell? ⟨g7, 2, none⟩ = some (.int .i64 x.f1.f1) := (blk_cell BK7.out 2).trans rfl; have hq7_3 : w3.cell? ⟨g7, 3, none⟩ = some (.int .i64 x.f1.f2) := (blk_cell BK7.out 3).trans rfl; have hq7_4 : w3.cell? ⟨g7, 4, none⟩ = some (.slice x.f2.a x.f2.n x.f2.c) := (blk_cell BK7.out 4).trans rfl; have hfq7_0 := blk_frozen BK7.out 0; have hfq7_1 := blk_frozen BK7.out 1; have hfq7_2 := blk_frozen BK7.out 2; have hfq7_3 := blk_frozen BK7.out 3; have hfq7_4 := blk_frozen BK7.out 4; have hq8_0 : w3.cell? ⟨g8, 0, none⟩ = some (.int .i64 0) := (blk_cell BK8.out 0).trans rfl; have hq8_1 : w3.cell? ⟨g8, 1, none⟩ = some (.int .i64 0) := (blk_cell BK8.out 1).trans rfl; have hq8_2 : w3.cell? ⟨g8, 2, none⟩ = some (.int .i64 0) := (blk_cell BK8.out 2).trans rfl; have hq8_3 : w3.cell? ⟨g8, 3, none⟩ = some (.int .i64 0) := (blk_cell BK8.out 3).trans rfl; have hq8_4 : w3.cell? ⟨g8, 4, none⟩ = some (.slice none 0 0) := (blk_cell BK8.out 4).trans rfl; have hfq8_0 := blk_frozen BK8.out 0; have hfq8_1 := blk_frozen BK8.out 1; have hfq8_2 := blk_frozen BK8.out 2; have hfq8_3 := blk_frozen BK8.out 3; have hfq8_4 := blk_frozen BK8.out 4)
                  | (at_mapUpdate; refine mapF_put _ rfl _ _ _ 42 rfl 3 27 Try.underlying3 Try.underlying42 w.heap.size i f rfl (mapF_set5 HF.out NE8.out (.int .i64 0) (.int .i64 0) (.int .i64 0) (.int .i64 0) (.slice none 0 0)) (by have := HL.out; have := HI'.out; unfold maxLen; omega) _ _ rfl rfl WK.out ?_; intro w5 HP hg5; have HQ := Aside0.mk HP; have HB5 := Aside0.mk (show Below w.heap.size w w5 from below_grown (by repeat (first | (with_reducible first | exact HB.out | apply below_alloc | apply pw_below_drewN | apply below_drew1 | refine below_set ?_ GE7.out | refine below_set ?_ GE8.out) | exact HB.out)) hg5); clear HP hg5))
                go_roundg k1
                case measure => have := HI.out; omega
                case rel => exact ⟨i + 1, congrArg (Value.int .i64) EW.out, ⟨by have := HI.out; omega, by have := HI'.out; omega⟩, ⟨by rw [HS2.out]; exact map_put HQ.out HG.out (repsV_mk _ _)⟩, HB5⟩
              · have FK := Aside0.mk k1_
                have GK := Aside0.mk k2_
                clear k1_ k2_ hfg
                by_cases c6 : fnew x s = true
                · have FN := Aside0.mk (show replay_newer.f x.f0 x.f1.f0 x.f1.f1 x.f1.f2 x.f2 s.f0 s.f1.f0 s.f1.f1 s.f1.f2 s.f2 = some true from by rw [fnew_is, c6])
                  have HS2 := Aside0.mk (show (l.take (i + 1)).foldl (bestStep n) (fun _ => none) = (fun y => if y = x.f1.f1 then some x else g y) from by rw [HS.out, HS1.out, GK.out]; exact if_pos c6)
                  clear c6 HS1
                  go_wp2_with (first
                    | ((with_reducible refine gate_dst (N := 7) rfl ?_); refine box_event ?hg (N := 7) ?hd (cs := #[.int .i64 0, .int .i64 0, .int .i64 0, .int .i64 0, .slice none 0 0]) (t := 27) ?hr ?_; (case hd => rfl); (case hg => rfl); (case hr => first | (go_simp; done) | (go_simp; rfl)); intro g7 hg w1 hbox hb; have NE7 := Aside0.mk (show w.heap.size ≠ g7 from by rw [hg]; have := HF.out.lt; omega); have GE7 := Aside0.mk (show w.heap.size ≤ g7 from by rw [hg]; exact below_size (by repeat (first | (with_reducible first | exact HB.out | apply below_alloc | apply pw_below_drewN | apply below_drew1) | exact HB.out))); have n0_ := Aside0.mk (HF.out.below hb); have n1_ := Aside0.mk (below_step (by repeat (first | (with_reducible first | exact HB.out | apply below_alloc | apply pw_below_drewN | apply below_drew1) | exact HB.out)) hb); have BK7 := Aside0.mk hbox; clear HF HB; have HF := n0_; have HB := n1_; clear n0_ n1_ hb hbox hg; have hz7_0 : w1.cell? ⟨g7, 0, none⟩ = some (.int .i64 0) := (blk_cell BK7.out 0).trans rfl; have hz7_1 : w1.cell? ⟨g7, 1, none⟩ = some (.int .i64 0) := (blk_cell BK7.out 1).trans rfl; have hz7_2 : w1.cell? ⟨g7, 2, none⟩ = some (.int .i64 0) := (blk_cell BK7.out 2).trans rfl; have hz7_3 : w1.cell? ⟨g7, 3, none⟩ = some (.int .i64 0) := (blk_cell BK7.out 3).trans rfl; have hz7_4 : w1.cell? ⟨g7, 4, none⟩ = some (.slice none 0 0) := (blk_cell BK7.out 4).trans rfl; have hfz7_0 := blk_frozen BK7.out 0; have hfz7_1 := blk_frozen BK7.out 1; have hfz7_2 := blk_frozen BK7.out 2; have hfz7_3 := blk_frozen BK7.out 3; have hfz7_4 := blk_frozen BK7.out 4)
                    | ((with_reducible refine gate_callee (f := 17) rfl ?_); refine goesL_ (some 26) rfl rfl Try.func17 (by kernel_rfl) rfl #[.agg #[.int .i64 x.f0, .int .i64 x.f1.f0, .int .i64 x.f1.f1, .int .i64 x.f1.f2, .slice x.f2.a x.f2.n x.f2.c], .int .i64 n] rfl (by (try simp only [List.map_toArray, List.map_cons, List.map_nil]); first | done | rfl) ?_; (with_reducible refine (replay_counts.calls x.f0 x.f1.f0 x.f1.f1 x.f1.f2 x.f2 n _ _ FC.out).mono ?_); rintro e w2 ⟨rfl, hb⟩; refine ⟨_, rfl, ?_⟩; have n0_ := Aside0.mk ((mapF_set5 HF.out NE7.out (.int .i64 x.f0) (.int .i64 x.f1.f0) (.int .i64 x.f1.f1) (.int .i64 x.f1.f2) (.slice x.f2.a x.f2.n x.f2.c)).below hb); have n1_ := Aside0.mk (blk_below (blk5 BK7.out (.int .i64 x.f0) (.int .i64 x.f1.f0) (.int .i64 x.f1.f1) (.int .i64 x.f1.f2) (.slice x.f2.a x.f2.n x.f2.c)) hb); have n2_ := Aside0.mk (below_step (by repeat (first | (with_reducible first | exact HB.out | apply below_alloc | apply pw_below_drewN | apply below_drew1 | refine below_set ?_ GE7.out) | exact HB.out)) hb); clear HF BK7 HB; have HF := n0_; have BK7 := n1_; have HB := n2_; clear n0_ n1_ n2_ hb; have hy7_0 : w2.cell? ⟨g7, 0, none⟩ = some (.int .i64 x.f0) := (blk_cell BK7.out 0).trans rfl; have hy7_1 : w2.cell? ⟨g7, 1, none⟩ = some (.int .i64 x.f1.f0) := (blk_cell BK7.out 1).trans rfl; have hy7_2 : w2.cell? ⟨g7, 2, none⟩ = some (.int .i64 x.f1.f1) := (blk_cell BK7.out 2).trans rfl; have hy7_3 : w2.cell? ⟨g7, 3, none⟩ = some (.int .i64 x.f1.f2) := (blk_cell BK7.out 3).trans rfl; have hy7_4 : w2.cell? ⟨g7, 4, none⟩ = some (.slice x.f2.a x.f2.n x.f2.c) := (blk_cell BK7.out 4).trans rfl; have hfy7_0 := blk_frozen BK7.out 0; have hfy7_1 := blk_frozen BK7.out 1; have hfy7_2 := blk_frozen BK7.out 2; have hfy7_3 := blk_frozen BK7.out 3; have hfy7_4 := blk_frozen BK7.out 4)
                    | (at_lookup; refine mapF_look _ rfl _ _ 42 true rfl 3 27 Try.underlying3 Try.underlying42 (zero27 _) w.heap.size i f rfl HF.out _ rfl WK.out ?_; rw [FK.out]; simp only [Option.getD_some, Option.getD_none, Option.isSome_some, Option.isSome_none, if_true])
                    | ((with_reducible refine gate_dst (N := 8) rfl ?_); refine box_event ?hg (N := 8) ?hd (cs := #[.int .i64 0, .int .i64 0, .int .i64 0, .int .i64 0, .slice none 0 0]) (t := 27) ?hr ?_; (case hd => rfl); (case hg => rfl); (case hr => first | (go_simp; done) | (go_simp; rfl)); intro g8 hg w3 hbox hb; have NE8 := Aside0.mk (show w.heap.size ≠ g8 from by rw [hg]; have := HF.out.lt; omega); have ne78 : g7 ≠ g8 := (by rw [hg]; have := blk_lt BK7.out; omega); have ne87 : g8 ≠ g7 := ne78.symm; have GE8 := Aside0.mk (show w.heap.size ≤ g8 from by rw [hg]; exact below_size (by repeat (first | (with_reducible first | exact HB.out | apply below_alloc | apply pw_below_drewN | apply below_drew1) | exact HB.out))); have n0_ := Aside0.mk (HF.out.below hb); have n1_ := Aside0.mk (below_step (by repeat (first | (with_reducible first | exact HB.out | apply below_alloc | apply pw_below_drewN | apply below_drew1) | exact HB.out)) hb); have n2_ := Aside0.mk (blk_below BK7.out hb); have BK8 := Aside0.mk hbox; clear HF HB BK7; have HF := n0_; have HB := n1_; have BK7 := n2_; clear n0_ n1_ n2_ hb hbox hg; have hq7_0 : w3.cell? ⟨g7, 0, none⟩ = some (.int .i64 x.f0) := (blk_cell BK7.out 0).trans rfl; have hq7_1 : w3.cell? ⟨g7, 1, none⟩ = some (.int .i64 x.f1.f0) := (blk_cell BK7.out 1).trans rfl; have hq7_2 : w3.cell? ⟨g7, 2, none⟩ = some (.int .i64 x.f1.f1) := (blk_cell BK7.out 2).trans rfl; have hq7_3 : w3.cell? ⟨g7, 3, none⟩ = some (.int .i64 x.f1.f2) := (blk_cell BK7.out 3).trans rfl; have hq7_4 : w3.cell? ⟨g7, 4, none⟩ = some (.slice x.f2.a x.f2.n x.f2.c) := (blk_cell BK7.out 4).trans rfl; have hfq7_0 := blk_frozen BK7.out 0; have hfq7_1 := blk_frozen BK7.out 1; have hfq7_2 := blk_frozen BK7.out 2; have hfq7_3 := blk_frozen BK7.out 3; have hfq7_4 := blk_frozen BK7.out 4; have hq8_0 : w3.cell? ⟨g8, 0, none⟩ = some (.int .i64 0) := (blk_cell BK8.out 0).trans rfl; have hq8_1 : w3.cell? ⟨g8, 1, none⟩ = some (.int .i64 0) := (blk_cell BK8.out 1).trans rfl; have hq8_2 : w3.cell? ⟨g8, 2, none⟩ = some (.int .i64 0) := (blk_cell BK8.out 2).trans rfl; have hq8_3 : w3.cell? ⟨g8, 3, none⟩ = some (.int .i64 0) := (blk_cell BK8.out 3).trans rfl; have hq8_4 : w3.cell? ⟨g8, 4, none⟩ = some (.slice none 0 0) := (blk_cell BK8.out 4).trans rfl; have hfq8_0 := blk_frozen BK8.out 0; have hfq8_1 := blk_frozen BK8.out 1; have hfq8_2 := blk_frozen BK8.out 2; have hfq8_3 := blk_frozen BK8.out 3; have hfq8_4 := blk_frozen BK8.out 4)
                    | ((with_reducible refine gate_callee (f := 18) rfl ?_); (try (refine gate_guard (by rfl) ?_; dsimp only)); refine goesL_ (some 41) rfl rfl Try.func18 (by kernel_rfl) rfl #[.agg #[.int .i64 x.f0, .int .i64 x.f1.f0, .int .i64 x.f1.f1, .int .i64 x.f1.f2, .slice x.f2.a x.f2.n x.f2.c], .agg #[.int .i64 s.f0, .int .i64 s.f1.f0, .int .i64 s.f1.f1, .int .i64 s.f1.f2, .slice s.f2.a s.f2.n s.f2.c]] rfl (by (try simp only [List.map_toArray, List.map_cons, List.map_nil]); first | done | rfl) ?_; (with_reducible refine (replay_newer.calls x.f0 x.f1.f0 x.f1.f1 x.f1.f2 x.f2 s.f0 s.f1.f0 s.f1.f1 s.f1.f2 s.f2 _ _ FN.out).mono ?_); rintro e w4 ⟨rfl, hb⟩; refine ⟨_, rfl, ?_⟩; have n0_ := Aside0.mk ((mapF_set5 HF.out NE8.out (.int .i64 s.f0) (.int .i64 s.f1.f0) (.int .i64 s.f1.f1) (.int .i64 s.f1.f2) (.slice s.f2.a s.f2.n s.f2.c)).below hb); have n1_ := Aside0.mk (blk_below (blk_far5 BK7.out ne78 (.int .i64 s.f0) (.int .i64 s.f1.f0) (.int .i64 s.f1.f1) (.int .i64 s.f1.f2) (.slice s.f2.a s.f2.n s.f2.c)) hb); have n2_ := Aside0.mk (below_step (by repeat (first | (with_reducible first | exact HB.out | apply below_alloc | apply pw_below_drewN | apply below_drew1 | refine below_set ?_ GE7.out | refine below_set ?_ GE8.out) | exact HB.out)) hb); clear HF BK7 HB; have HF := n0_; have BK7 := n1_; have HB := n2_; clear n0_ n1_ n2_ hb; have hr7_0 : w4.cell? ⟨g7, 0, none⟩ = some (.int .i64 x.f0) := (blk_cell BK7.out 0).trans rfl; have hr7_1 : w4.cell? ⟨g7, 1, none⟩ = some (.int .i64 x.f1.f0) := (blk_cell BK7.out 1).trans rfl; have hr7_2 : w4.cell? ⟨g7, 2, none⟩ = some (.int .i64 x.f1.f1) := (blk_cell BK7.out 2).trans rfl; have hr7_3 : w4.cell? ⟨g7, 3, none⟩ = some (.int .i64 x.f1.f2) := (blk_cell BK7.out 3).trans rfl; have hr7_4 : w4.cell? ⟨g7, 4, none⟩ = some (.slice x.f2.a x.f2.n x.f2.c) := (blk_cell BK7.out 4).trans rfl; have hfr7_0 := blk_frozen BK7.out 0; have hfr7_1 := blk_frozen BK7.out 1; have hfr7_2 := blk_frozen BK7.out 2; have hfr7_3 := blk_frozen BK7.out 3; have hfr7_4 := blk_frozen BK7.out 4)
                    | (at_mapUpdate; refine mapF_put _ rfl _ _ _ 42 rfl 3 27 Try.underlying3 Try.underlying42 w.heap.size i f rfl (HF.out) (by have := HL.out; have := HI'.out; unfold maxLen; omega) _ _ rfl rfl WK.out ?_; intro w5 HP hg5; have HQ := Aside0.mk HP; have HB5 := Aside0.mk (show Below w.heap.size w w5 from below_grown (by repeat (first | (with_reducible first | exact HB.out | apply below_alloc | apply pw_below_drewN | apply below_drew1) | exact HB.out)) hg5); clear HP hg5))
                  go_roundg k1
                  case measure => have := HI.out; omega
                  case rel => exact ⟨i + 1, congrArg (Value.int .i64) EW.out, ⟨by have := HI.out; omega, by have := HI'.out; omega⟩, ⟨by rw [HS2.out]; exact map_put HQ.out HG.out (repsV_mk _ _)⟩, HB5⟩
                · have c7 : fnew x s = false := by simpa using c6
                  have FN := Aside0.mk (show replay_newer.f x.f0 x.f1.f0 x.f1.f1 x.f1.f2 x.f2 s.f0 s.f1.f0 s.f1.f1 s.f1.f2 s.f2 = some false from by rw [fnew_is, c7])
                  have HS2 := Aside0.mk (show (l.take (i + 1)).foldl (bestStep n) (fun _ => none) = g from by rw [HS.out, HS1.out, GK.out]; exact if_neg c6)
                  clear c6 c7 HS1
                  go_wp2_with (first
                    | ((with_reducible refine gate_dst (N := 7) rfl ?_); refine box_event ?hg (N := 7) ?hd (cs := #[.int .i64 0, .int .i64 0, .int .i64 0, .int .i64 0, .slice none 0 0]) (t := 27) ?hr ?_; (case hd => rfl); (case hg => rfl); (case hr => first | (go_simp; done) | (go_simp; rfl)); intro g7 hg w1 hbox hb; have NE7 := Aside0.mk (show w.heap.size ≠ g7 from by rw [hg]; have := HF.out.lt; omega); have GE7 := Aside0.mk (show w.heap.size ≤ g7 from by rw [hg]; exact below_size (by repeat (first | (with_reducible first | exact HB.out | apply below_alloc | apply pw_below_drewN | apply below_drew1) | exact HB.out))); have n0_ := Aside0.mk (HF.out.below hb); have n1_ := Aside0.mk (below_step (by repeat (first | (with_reducible first | exact HB.out | apply below_alloc | apply pw_below_drewN | apply below_drew1) | exact HB.out)) hb); have BK7 := Aside0.mk hbox; clear HF HB; have HF := n0_; have HB := n1_; clear n0_ n1_ hb hbox hg; have hz7_0 : w1.cell? ⟨g7, 0, none⟩ = some (.int .i64 0) := (blk_cell BK7.out 0).trans rfl; have hz7_1 : w1.cell? ⟨g7, 1, none⟩ = some (.int .i64 0) := (blk_cell BK7.out 1).trans rfl; have hz7_2 : w1.cell? ⟨g7, 2, none⟩ = some (.int .i64 0) := (blk_cell BK7.out 2).trans rfl; have hz7_3 : w1.cell? ⟨g7, 3, none⟩ = some (.int .i64 0) := (blk_cell BK7.out 3).trans rfl; have hz7_4 : w1.cell? ⟨g7, 4, none⟩ = some (.slice none 0 0) := (blk_cell BK7.out 4).trans rfl; have hfz7_0 := blk_frozen BK7.out 0; have hfz7_1 := blk_frozen BK7.out 1; have hfz7_2 := blk_frozen BK7.out 2; have hfz7_3 := blk_frozen BK7.out 3; have hfz7_4 := blk_frozen BK7.out 4)
                    | ((with_reducible refine gate_callee (f := 17) rfl ?_); refine goesL_ (some 26) rfl rfl Try.func17 (by kernel_rfl) rfl #[.agg #[.int .i64 x.f0, .int .i64 x.f1.f0, .int .i64 x.f1.f1, .int .i64 x.f1.f2, .slice x.f2.a x.f2.n x.f2.c], .int .i64 n] rfl (by (try simp only [List.map_toArray, List.map_cons, List.map_nil]); first | done | rfl) ?_; (with_reducible refine (replay_counts.calls x.f0 x.f1.f0 x.f1.f1 x.f1.f2 x.f2 n _ _ FC.out).mono ?_); rintro e w2 ⟨rfl, hb⟩; refine ⟨_, rfl, ?_⟩; have n0_ := Aside0.mk ((mapF_set5 HF.out NE7.out (.int .i64 x.f0) (.int .i64 x.f1.f0) (.int .i64 x.f1.f1) (.int .i64 x.f1.f2) (.slice x.f2.a x.f2.n x.f2.c)).below hb); have n1_ := Aside0.mk (blk_below (blk5 BK7.out (.int .i64 x.f0) (.int .i64 x.f1.f0) (.int .i64 x.f1.f1) (.int .i64 x.f1.f2) (.slice x.f2.a x.f2.n x.f2.c)) hb); have n2_ := Aside0.mk (below_step (by repeat (first | (with_reducible first | exact HB.out | apply below_alloc | apply pw_below_drewN | apply below_drew1 | refine below_set ?_ GE7.out) | exact HB.out)) hb); clear HF BK7 HB; have HF := n0_; have BK7 := n1_; have HB := n2_; clear n0_ n1_ n2_ hb; have hy7_0 : w2.cell? ⟨g7, 0, none⟩ = some (.int .i64 x.f0) := (blk_cell BK7.out 0).trans rfl; have hy7_1 : w2.cell? ⟨g7, 1, none⟩ = some (.int .i64 x.f1.f0) := (blk_cell BK7.out 1).trans rfl; have hy7_2 : w2.cell? ⟨g7, 2, none⟩ = some (.int .i64 x.f1.f1) := (blk_cell BK7.out 2).trans rfl; have hy7_3 : w2.cell? ⟨g7, 3, none⟩ = some (.int .i64 x.f1.f2) := (blk_cell BK7.out 3).trans rfl; have hy7_4 : w2.cell? ⟨g7, 4, none⟩ = some (.slice x.f2.a x.f2.n x.f2.c) := (blk_cell BK7.out 4).trans rfl; have hfy7_0 := blk_frozen BK7.out 0; have hfy7_1 := blk_frozen BK7.out 1; have hfy7_2 := blk_frozen BK7.out 2; have hfy7_3 := blk_frozen BK7.out 3; have hfy7_4 := blk_frozen BK7.out 4)
                    | (at_lookup; refine mapF_look _ rfl _ _ 42 true rfl 3 27 Try.underlying3 Try.underlying42 (zero27 _) w.heap.size i f rfl HF.out _ rfl WK.out ?_; rw [FK.out]; simp only [Option.getD_some, Option.getD_none, Option.isSome_some, Option.isSome_none, if_true])
                    | ((with_reducible refine gate_dst (N := 8) rfl ?_); refine box_event ?hg (N := 8) ?hd (cs := #[.int .i64 0, .int .i64 0, .int .i64 0, .int .i64 0, .slice none 0 0]) (t := 27) ?hr ?_; (case hd => rfl); (case hg => rfl); (case hr => first | (go_simp; done) | (go_simp; rfl)); intro g8 hg w3 hbox hb; have NE8 := Aside0.mk (show w.heap.size ≠ g8 from by rw [hg]; have := HF.out.lt; omega); have ne78 : g7 ≠ g8 := (by rw [hg]; have := blk_lt BK7.out; omega); have ne87 : g8 ≠ g7 := ne78.symm; have GE8 := Aside0.mk (show w.heap.size ≤ g8 from by rw [hg]; exact below_size (by repeat (first | (with_reducible first | exact HB.out | apply below_alloc | apply pw_below_drewN | apply below_drew1) | exact HB.out))); have n0_ := Aside0.mk (HF.out.below hb); have n1_ := Aside0.mk (below_step (by repeat (first | (with_reducible first | exact HB.out | apply below_alloc | apply pw_below_drewN | apply below_drew1) | exact HB.out)) hb); have n2_ := Aside0.mk (blk_below BK7.out hb); have BK8 := Aside0.mk hbox; clear HF HB BK7; have HF := n0_; have HB := n1_; have BK7 := n2_; clear n0_ n1_ n2_ hb hbox hg; have hq7_0 : w3.cell? ⟨g7, 0, none⟩ = some (.int .i64 x.f0) := (blk_cell BK7.out 0).trans rfl; have hq7_1 : w3.cell? ⟨g7, 1, none⟩ = some (.int .i64 x.f1.f0) := (blk_cell BK7.out 1).trans rfl; have hq7_2 : w3.cell? ⟨g7, 2, none⟩ = some (.int .i64 x.f1.f1) := (blk_cell BK7.out 2).trans rfl; have hq7_3 : w3.cell? ⟨g7, 3, none⟩ = some (.int .i64 x.f1.f2) := (blk_cell BK7.out 3).trans rfl; have hq7_4 : w3.cell? ⟨g7, 4, none⟩ = some (.slice x.f2.a x.f2.n x.f2.c) := (blk_cell BK7.out 4).trans rfl; have hfq7_0 := blk_frozen BK7.out 0; have hfq7_1 := blk_frozen BK7.out 1; have hfq7_2 := blk_frozen BK7.out 2; have hfq7_3 := blk_frozen BK7.out 3; have hfq7_4 := blk_frozen BK7.out 4; have hq8_0 : w3.cell? ⟨g8, 0, none⟩ = some (.int .i64 0) := (blk_cell BK8.out 0).trans rfl; have hq8_1 : w3.cell? ⟨g8, 1, none⟩ = some (.int .i64 0) := (blk_cell BK8.out 1).trans rfl; have hq8_2 : w3.cell? ⟨g8, 2, none⟩ = some (.int .i64 0) := (blk_cell BK8.out 2).trans rfl; have hq8_3 : w3.cell? ⟨g8, 3, none⟩ = some (.int .i64 0) := (blk_cell BK8.out 3).trans rfl; have hq8_4 : w3.cell? ⟨g8, 4, none⟩ = some (.slice none 0 0) := (blk_cell BK8.out 4).trans rfl; have hfq8_0 := blk_frozen BK8.out 0; have hfq8_1 := blk_frozen BK8.out 1; have hfq8_2 := blk_frozen BK8.out 2; have hfq8_3 := blk_frozen BK8.out 3; have hfq8_4 := blk_frozen BK8.out 4)
                    | ((with_reducible refine gate_callee (f := 18) rfl ?_); (try (refine gate_guard (by rfl) ?_; dsimp only)); refine goesL_ (some 41) rfl rfl Try.func18 (by kernel_rfl) rfl #[.agg #[.int .i64 x.f0, .int .i64 x.f1.f0, .int .i64 x.f1.f1, .int .i64 x.f1.f2, .slice x.f2.a x.f2.n x.f2.c], .agg #[.int .i64 s.f0, .int .i64 s.f1.f0, .int .i64 s.f1.f1, .int .i64 s.f1.f2, .slice s.f2.a s.f2.n s.f2.c]] rfl (by (try simp only [List.map_toArray, List.map_cons, List.map_nil]); first | done | rfl) ?_; (with_reducible refine (replay_newer.calls x.f0 x.f1.f0 x.f1.f1 x.f1.f2 x.f2 s.f0 s.f1.f0 s.f1.f1 s.f1.f2 s.f2 _ _ FN.out).mono ?_); rintro e w4 ⟨rfl, hb⟩; refine ⟨_, rfl, ?_⟩; have n0_ := Aside0.mk ((mapF_set5 HF.out NE8.out (.int .i64 s.f0) (.int .i64 s.f1.f0) (.int .i64 s.f1.f1) (.int .i64 s.f1.f2) (.slice s.f2.a s.f2.n s.f2.c)).below hb); have n1_ := Aside0.mk (blk_below (blk_far5 BK7.out ne78 (.int .i64 s.f0) (.int .i64 s.f1.f0) (.int .i64 s.f1.f1) (.int .i64 s.f1.f2) (.slice s.f2.a s.f2.n s.f2.c)) hb); have n2_ := Aside0.mk (below_step (by repeat (first | (with_reducible first | exact HB.out | apply below_alloc | apply pw_below_drewN | apply below_drew1 | refine below_set ?_ GE7.out | refine below_set ?_ GE8.out) | exact HB.out)) hb); clear HF BK7 HB; have HF := n0_; have BK7 := n1_; have HB := n2_; clear n0_ n1_ n2_ hb; have hr7_0 : w4.cell? ⟨g7, 0, none⟩ = some (.int .i64 x.f0) := (blk_cell BK7.out 0).trans rfl; have hr7_1 : w4.cell? ⟨g7, 1, none⟩ = some (.int .i64 x.f1.f0) := (blk_cell BK7.out 1).trans rfl; have hr7_2 : w4.cell? ⟨g7, 2, none⟩ = some (.int .i64 x.f1.f1) := (blk_cell BK7.out 2).trans rfl; have hr7_3 : w4.cell? ⟨g7, 3, none⟩ = some (.int .i64 x.f1.f2) := (blk_cell BK7.out 3).trans rfl; have hr7_4 : w4.cell? ⟨g7, 4, none⟩ = some (.slice x.f2.a x.f2.n x.f2.c) := (blk_cell BK7.out 4).trans rfl; have hfr7_0 := blk_frozen BK7.out 0; have hfr7_1 := blk_frozen BK7.out 1; have hfr7_2 := blk_frozen BK7.out 2; have hfr7_3 := blk_frozen BK7.out 3; have hfr7_4 := blk_frozen BK7.out 4))
                  go_roundg k1
                  case measure => have := HI.out; omega
                  case rel => exact ⟨i + 1, congrArg (Value.int .i64) EW.out, ⟨by have := HI.out; omega, by have := HI'.out; omega⟩, ⟨by rw [HS2.out]; exact ⟨f, HF.out.mono (Nat.le_succ _), HG.out⟩⟩, HB⟩
            · have c5 : fcnt x n = false := by simpa using c4'
              have FC := Aside0.mk (show replay_counts.f x.f0 x.f1.f0 x.f1.f1 x.f1.f2 x.f2 n = some false from by rw [fcnt_is, c5])
              have HS2 := Aside0.mk (HS.out.trans (step_no c5))
              clear c4' c5
              go_wp2_with (first
                | ((with_reducible refine gate_dst (N := 7) rfl ?_); refine box_event ?hg (N := 7) ?hd (cs := #[.int .i64 0, .int .i64 0, .int .i64 0, .int .i64 0, .slice none 0 0]) (t := 27) ?hr ?_; (case hd => rfl); (case hg => rfl); (case hr => first | (go_simp; done) | (go_simp; rfl)); intro g7 hg w1 hbox hb; have NE7 := Aside0.mk (show w.heap.size ≠ g7 from by rw [hg]; have := HM.out.lt; omega); have GE7 := Aside0.mk (show w.heap.size ≤ g7 from by rw [hg]; exact below_size (by repeat (first | (with_reducible first | exact HB.out | apply below_alloc | apply pw_below_drewN | apply below_drew1) | exact HB.out))); have n0_ := Aside0.mk (HM.out.below hb); have n1_ := Aside0.mk (below_step (by repeat (first | (with_reducible first | exact HB.out | apply below_alloc | apply pw_below_drewN | apply below_drew1) | exact HB.out)) hb); have BK7 := Aside0.mk hbox; clear HM HB; have HM := n0_; have HB := n1_; clear n0_ n1_ hb hbox hg; have hz7_0 : w1.cell? ⟨g7, 0, none⟩ = some (.int .i64 0) := (blk_cell BK7.out 0).trans rfl; have hz7_1 : w1.cell? ⟨g7, 1, none⟩ = some (.int .i64 0) := (blk_cell BK7.out 1).trans rfl; have hz7_2 : w1.cell? ⟨g7, 2, none⟩ = some (.int .i64 0) := (blk_cell BK7.out 2).trans rfl; have hz7_3 : w1.cell? ⟨g7, 3, none⟩ = some (.int .i64 0) := (blk_cell BK7.out 3).trans rfl; have hz7_4 : w1.cell? ⟨g7, 4, none⟩ = some (.slice none 0 0) := (blk_cell BK7.out 4).trans rfl; have hfz7_0 := blk_frozen BK7.out 0; have hfz7_1 := blk_frozen BK7.out 1; have hfz7_2 := blk_frozen BK7.out 2; have hfz7_3 := blk_frozen BK7.out 3; have hfz7_4 := blk_frozen BK7.out 4)
                | ((with_reducible refine gate_callee (f := 17) rfl ?_); refine goesL_ (some 26) rfl rfl Try.func17 (by kernel_rfl) rfl #[.agg #[.int .i64 x.f0, .int .i64 x.f1.f0, .int .i64 x.f1.f1, .int .i64 x.f1.f2, .slice x.f2.a x.f2.n x.f2.c], .int .i64 n] rfl (by (try simp only [List.map_toArray, List.map_cons, List.map_nil]); first | done | rfl) ?_; (with_reducible refine (replay_counts.calls x.f0 x.f1.f0 x.f1.f1 x.f1.f2 x.f2 n _ _ FC.out).mono ?_); rintro e w2 ⟨rfl, hb⟩; refine ⟨_, rfl, ?_⟩; have n0_ := Aside0.mk ((HM.out.set5 NE7.out (.int .i64 x.f0) (.int .i64 x.f1.f0) (.int .i64 x.f1.f1) (.int .i64 x.f1.f2) (.slice x.f2.a x.f2.n x.f2.c)).below hb); have n1_ := Aside0.mk (blk_below (blk5 BK7.out (.int .i64 x.f0) (.int .i64 x.f1.f0) (.int .i64 x.f1.f1) (.int .i64 x.f1.f2) (.slice x.f2.a x.f2.n x.f2.c)) hb); have n2_ := Aside0.mk (below_step (by repeat (first | (with_reducible first | exact HB.out | apply below_alloc | apply pw_below_drewN | apply below_drew1 | refine below_set ?_ GE7.out) | exact HB.out)) hb); clear HM BK7 HB; have HM := n0_; have BK7 := n1_; have HB := n2_; clear n0_ n1_ n2_ hb; have hy7_0 : w2.cell? ⟨g7, 0, none⟩ = some (.int .i64 x.f0) := (blk_cell BK7.out 0).trans rfl; have hy7_1 : w2.cell? ⟨g7, 1, none⟩ = some (.int .i64 x.f1.f0) := (blk_cell BK7.out 1).trans rfl; have hy7_2 : w2.cell? ⟨g7, 2, none⟩ = some (.int .i64 x.f1.f1) := (blk_cell BK7.out 2).trans rfl; have hy7_3 : w2.cell? ⟨g7, 3, none⟩ = some (.int .i64 x.f1.f2) := (blk_cell BK7.out 3).trans rfl; have hy7_4 : w2.cell? ⟨g7, 4, none⟩ = some (.slice x.f2.a x.f2.n x.f2.c) := (blk_cell BK7.out 4).trans rfl; have hfy7_0 := blk_frozen BK7.out 0; have hfy7_1 := blk_frozen BK7.out 1; have hfy7_2 := blk_frozen BK7.out 2; have hfy7_3 := blk_frozen BK7.out 3; have hfy7_4 := blk_frozen BK7.out 4))
              go_roundg k1
              case measure => have := HI.out; omega
              case rel => exact ⟨i + 1, congrArg (Value.int .i64) EW.out, ⟨by have := HI.out; omega, by have := HI'.out; omega⟩, ⟨by rw [HS2.out]; exact (HM.out.mono (Nat.le_succ _))⟩, HB⟩
          · have c3b : decide ((i : Int) < (l.length : Int)) = false := decide_eq_false c3
            have hi : i = l.length := by have := HI.out; omega
            subst hi
            have HM' := Aside0.mk (show mapB w wr w.heap.size l.length (l.foldl (bestStep n) (fun _ => none)) from by have := HM.out; rwa [List.take_length] at this)
            clear HM
            go_wp2
            go_ret
            first | exact ⟨_, _, rfl, HM'.out, Nat.le_refl _, HB.out⟩ | exact ⟨_, rfl, ⟨_, HM'.out⟩, Nat.le_refl _, HB.out⟩ | exact ⟨_, rfl, _, HM'.out, Nat.le_refl _, HB.out⟩
theorem row_set {i N : Nat} (h : i < N) : (List.replicate i (⟨-1, 0, 0⟩ : S33) ++ List.replicate (N - i) z33).set (i : Int).toNat ⟨-1, (((List.replicate i (⟨-1, 0, 0⟩ : S33) ++ List.replicate (N - i) z33).getD (i : Int).toNat z33)).f1, (((List.replicate i (⟨-1, 0, 0⟩ : S33) ++ List.replicate (N - i) z33).getD (i : Int).toNat z33)).f2⟩ = List.replicate (i + 1) ⟨-1, 0, 0⟩ ++ List.replicate (N - (i + 1)) z33 := by
  rw [Int.toNat_natCast]
  obtain ⟨m, hm⟩ : ∃ m, N - i = m + 1 := ⟨N - i - 1, by omega⟩
  have hm2 : N - (i + 1) = m := by omega
  rw [hm, hm2]
  have e : (List.replicate i (⟨-1, 0, 0⟩ : S33) ++ List.replicate (m + 1) z33).getD i z33 = z33 := by
    rw [List.getD_eq_getElem?_getD, List.getElem?_append_right (by simp)]
    simp
  rw [e, List.set_append_right _ _ (by simp)]
  simp only [List.length_replicate, Nat.sub_self, List.replicate_succ (n := m), List.set_cons_zero]
  rw [List.replicate_succ', List.append_assoc]
  rfl

/-- where a sector is, by the newest one found of it -/
def entryOf (o : Option S27) : S33 := match o with | none => ⟨-1, 0, 0⟩ | some x => ⟨x.f0, x.f1.f2, x.f1.f0⟩
def newestL (l : List S27) (n : Int) : List S33 := (List.range n.toNat).map (fun (i : Nat) => entryOf (bestF l n (i : Int)))
def stampOf (o : Option S27) : Int := match o with | none => 0 | some x => x.f1.f2
def mostL (l : List S27) (n : Int) : Int := (List.range n.toNat).foldl (fun m (i : Nat) => max m (stampOf (bestF l n (i : Int)))) 0
def replay_Newest.f (l0 : List S27) (a1 : Int) : Option (List S33 × Int) := if a1 < 1 then some ([], 0) else if 4096 < a1 then some ([], 0) else some (newestL l0 a1, mostL l0 a1)
theorem step_prop {n : Int} {g : Int → Option S27} {x : S27} (h : ∀ y s, g y = some s → fcnt s n = true ∧ s.f1.f1 = y) : ∀ y s, bestStep n g x y = some s → fcnt s n = true ∧ s.f1.f1 = y := by
  intro y s hs
  unfold bestStep at hs
  by_cases c : fcnt x n = true
  · rw [if_pos c] at hs
    cases hg : g x.f1.f1 with
    | none =>
      rw [hg] at hs
      dsimp only at hs
      by_cases e : y = x.f1.f1
      · rw [if_pos e] at hs; cases hs; exact ⟨c, e.symm⟩
      · rw [if_neg e] at hs; exact h y s hs
    | some o =>
      rw [hg] at hs
      dsimp only at hs
      by_cases c2 : fnew x o = true
      · rw [if_pos c2] at hs
        by_cases e : y = x.f1.f1
        · rw [if_pos e] at hs; cases hs; exact ⟨c, e.symm⟩
        · rw [if_neg e] at hs; exact h y s hs
      · rw [if_neg c2] at hs; exact h y s hs
  · rw [if_neg c] at hs; exact h y s hs
theorem fold_prop {n : Int} (l : List S27) : ∀ (g : Int → Option S27), (∀ y s, g y = some s → fcnt s n = true ∧ s.f1.f1 = y) → ∀ y s, l.foldl (bestStep n) g y = some s → fcnt s n = true ∧ s.f1.f1 = y := by
  induction l with
  | nil => intro g h; exact h
  | cons x l ih => intro g h; exact ih _ (step_prop h)
theorem best_prop {l : List S27} {n y : Int} {s : S27} (h : bestF l n y = some s) : fcnt s n = true ∧ s.f1.f1 = y := by
  unfold bestF at h
  by_cases c1 : n < 1
  · rw [if_pos c1] at h; cases h
  · rw [if_neg c1] at h
    by_cases c2 : 4096 < n
    · rw [if_pos c2] at h; cases h
    · rw [if_neg c2] at h; exact fold_prop l _ (fun _ _ h => by cases h) y s h
def Inv (N : Nat) (g : Int → Option S27) (left : Int → Prop) (mo : Int) (xs : List S33) : Prop :=
  xs.length = N ∧ (∀ j : Nat, j < N → (left (j : Int) → xs[j]? = some ⟨-1, 0, 0⟩) ∧ (¬ left (j : Int) → xs[j]? = some (entryOf (g (j : Int))))) ∧ 0 ≤ mo ∧
    (∀ j : Nat, j < N → ¬ left (j : Int) → stampOf (g (j : Int)) ≤ mo) ∧ (mo = 0 ∨ ∃ j : Nat, j < N ∧ ¬ left (j : Int) ∧ mo = stampOf (g (j : Int)))
theorem inv_start (N : Nat) (g : Int → Option S27) (left : Int → Prop) (hl : ∀ j : Nat, j < N → (left (j : Int) ↔ (g (j : Int)).isSome = true)) : Inv N g left 0 (List.replicate N ⟨-1, 0, 0⟩) := by
  refine ⟨by simp, fun j hj => ⟨fun _ => by simp [hj], fun hn => ?_⟩, Int.le_refl _, fun j hj hn => ?_, Or.inl rfl⟩
  · have : g (j : Int) = none := by cases h : g (j : Int) with
      | none => rfl
      | some s => exact absurd ((hl j hj).2 (by rw [h]; rfl)) hn
    rw [this]; simp [hj, entryOf]
  · have : g (j : Int) = none := by cases h : g (j : Int) with
      | none => rfl
      | some s => exact absurd ((hl j hj).2 (by rw [h]; rfl)) hn
    rw [this]; exact Int.le_refl _
theorem inv_step {N : Nat} {g : Int → Option S27} {left : Int → Prop} {mo : Int} {xs : List S33} (h : Inv N g left mo xs) {j : Nat} (hj : j < N) {s : S27} (hg : g (j : Int) = some s) :
    Inv N g (fun z => left z ∧ z ≠ (j : Int)) (max mo s.f1.f2) (xs.set j (entryOf (some s))) := by
  obtain ⟨h1, h2, h3, h4, h5⟩ := h
  refine ⟨by simp [h1], fun k hk => ⟨fun hl => ?_, fun hn => ?_⟩, by omega, fun k hk hn => ?_, ?_⟩
  · have hne : j ≠ k := fun e => hl.2 (by rw [e])
    rw [List.getElem?_set_ne hne]
    exact (h2 k hk).1 hl.1
  · by_cases e : j = k
    · subst e
      rw [List.getElem?_set_self (by omega), hg]
    · rw [List.getElem?_set_ne e]
      exact (h2 k hk).2 (fun hl => hn ⟨hl, fun e2 => e (by omega)⟩)
  · by_cases e : j = k
    · subst e
      rw [hg]; show s.f1.f2 ≤ _; omega
    · have := h4 k hk (fun hl => hn ⟨hl, fun e2 => e (by omega)⟩)
      omega
  · by_cases c : s.f1.f2 ≤ mo
    · rw [show max mo s.f1.f2 = mo by omega]
      rcases h5 with h5 | ⟨k, hk, hn, e⟩
      · exact Or.inl h5
      · exact Or.inr ⟨k, hk, fun hl => hn hl.1, e⟩
    · rw [show max mo s.f1.f2 = s.f1.f2 by omega]
      exact Or.inr ⟨j, hj, fun hl => hl.2 rfl, by rw [hg]; rfl⟩
theorem fold_max (q : Nat → Int) : ∀ (N : Nat) (mo : Int), 0 ≤ mo → (∀ j, j < N → q j ≤ mo) → (mo = 0 ∨ ∃ j, j < N ∧ mo = q j) → (List.range N).foldl (fun m i => max m (q i)) 0 = mo := by
  have key : ∀ (N : Nat), 0 ≤ (List.range N).foldl (fun m i => max m (q i)) 0 ∧ (∀ j, j < N → q j ≤ (List.range N).foldl (fun m i => max m (q i)) 0) ∧ ((List.range N).foldl (fun m i => max m (q i)) 0 = 0 ∨ ∃ j, j < N ∧ (List.range N).foldl (fun m i => max m (q i)) 0 = q j) := by
    intro N
    induction N with
    | zero => exact ⟨by simp, fun j hj => by omega, Or.inl (by simp)⟩
    | succ N ih =>
      obtain ⟨i1, i2, i3⟩ := ih
      rw [List.range_succ, List.foldl_append]
      simp only [List.foldl_cons, List.foldl_nil]
      refine ⟨by omega, fun j hj => ?_, ?_⟩
      · by_cases e : j = N
        · subst e; omega
        · have := i2 j (by omega); omega
      · by_cases c : q N ≤ (List.range N).foldl (fun m i => max m (q i)) 0
        · rw [show max ((List.range N).foldl (fun m i => max m (q i)) 0) (q N) = (List.range N).foldl (fun m i => max m (q i)) 0 by omega]
          rcases i3 with i3 | ⟨j, hj, e⟩
          · exact Or.inl i3
          · exact Or.inr ⟨j, by omega, e⟩
        · exact Or.inr ⟨N, by omega, by omega⟩
  intro N mo h0 h1 h2
  obtain ⟨i1, i2, i3⟩ := key N
  rcases h2 with h2 | ⟨j, hj, e⟩
  · rcases i3 with i3 | ⟨k, hk, e3⟩
    · omega
    · have := h1 k hk; omega
  · have := i2 j hj
    rcases i3 with i3 | ⟨k, hk, e3⟩
    · omega
    · have := h1 k hk; omega
theorem inv_end {N : Nat} {l : List S27} {left : Int → Prop} {mo : Int} {xs : List S33} (h : Inv N (bestF l (N : Int)) left mo xs) (hl : ∀ j : Nat, j < N → ¬ left (j : Int)) : xs = newestL l (N : Int) ∧ mo = mostL l (N : Int) := by
  obtain ⟨h1, h2, h3, h4, h5⟩ := h
  constructor
  · unfold newestL
    rw [Int.toNat_natCast]
    refine List.ext_getElem? fun j => ?_
    by_cases hj : j < N
    · rw [(h2 j hj).2 (hl j hj)]
      simp [hj]
    · rw [List.getElem?_eq_none (by omega), List.getElem?_eq_none (by simp; omega)]
  · unfold mostL
    rw [Int.toNat_natCast]
    refine (fold_max _ N mo h3 (fun j hj => h4 j hj (hl j hj)) ?_).symm
    rcases h5 with h5 | ⟨j, hj, _, e⟩
    · exact Or.inl h5
    · exact Or.inr ⟨j, hj, e⟩
theorem below_none {w w1 w2 : World} {B : Nat} (h : Below B w w1) (hB : B ≤ w1.heap.size) (hg : w1.grownBy w2 none) : Below B w w2 :=
  ⟨hg.os.trans h.os, hg.tape.trans h.tape, hg.output.trans h.output, Nat.le_trans h.size hg.size, fun k hk => (hg.block k (Nat.lt_of_lt_of_le hk hB) (by simp)).trans (h.block k hk)⟩
theorem set5_heap {w : World} {b c : Nat} (hne : b ≠ c) (u0 u1 u2 u3 u4 : Value) :
    (((((w.setCell ⟨c, 0, none⟩ u0).setCell ⟨c, 1, none⟩ u1).setCell ⟨c, 2, none⟩ u2).setCell ⟨c, 3, none⟩ u3).setCell ⟨c, 4, none⟩ u4).heap[b]? = w.heap[b]? :=
  (Below.heap_setCell _ ⟨c, 4, none⟩ u4 b hne).trans ((Below.heap_setCell _ ⟨c, 3, none⟩ u3 b hne).trans ((Below.heap_setCell _ ⟨c, 2, none⟩ u2 b hne).trans ((Below.heap_setCell _ ⟨c, 1, none⟩ u1 b hne).trans (Below.heap_setCell _ ⟨c, 0, none⟩ u0 b hne))))
theorem mapR_kept {w w' : World} {P : Program} {k : TypeId} {B r n : Nat} {f : Int → Option Value} {left : Int → Prop} {cnt : Nat} {row : Option Nat} (h : mapR w P k B r n f left cnt) (hg : w.grownBy w' row) (hb : some B ≠ row) (hr : some r ≠ row) : mapR w' P k B r n f left cnt := by
  obtain ⟨D, l, h1, h2⟩ := h
  exact ⟨D, l, h1.kept hg hb hr, h2⟩

theorem mapR_ltB {w : World} {P : Program} {k : TypeId} {B r n : Nat} {f : Int → Option Value} {left : Int → Prop} {cnt : Nat} (h : mapR w P k B r n f left cnt) : B < w.heap.size := by
  obtain ⟨D, l, h1, h2⟩ := h
  exact h1.owns.lt
theorem mapR_set5 {w : World} {P : Program} {k : TypeId} {B r n : Nat} {f : Int → Option Value} {left : Int → Prop} {cnt : Nat} (h : mapR w P k B r n f left cnt) {c : Nat} (hb : B ≠ c) (hr : r ≠ c) (u0 u1 u2 u3 u4 : Value) :
    mapR (((((w.setCell ⟨c, 0, none⟩ u0).setCell ⟨c, 1, none⟩ u1).setCell ⟨c, 2, none⟩ u2).setCell ⟨c, 3, none⟩ u3).setCell ⟨c, 4, none⟩ u4) P k B r n f left cnt := by
  obtain ⟨D, l, ⟨es, clock, since, seen, c0, h1, F, hs, hD, h3, q⟩, h2⟩ := h
  exact ⟨D, l, ⟨es, clock, since, seen, c0, (set5_heap hb _ _ _ _ _).trans h1, F, hs, hD, (set5_heap hr _ _ _ _ _).trans h3, q⟩, h2⟩
theorem below_row {w w1 w2 : World} {B r : Nat} (h : Below B w w1) (hB : B ≤ w1.heap.size) (hg : w1.grownBy w2 (some r)) (hr : B ≤ r) : Below B w w2 :=
  ⟨hg.os.trans h.os, hg.tape.trans h.tape, hg.output.trans h.output, Nat.le_trans h.size hg.size, fun k hk => (hg.block k (Nat.lt_of_lt_of_le hk hB) (by intro e; cases e; omega)).trans (h.block k hk)⟩
theorem info33_ : (Try.prog.info? 33).map (fun i => (i.zero, i.size, i.bytes)) = some (some (.agg #[.int .i64 0, .int .i64 0, .int .i64 0]), 3, 24) := by kernel_rfl
set_option maxHeartbeats 2000000 in
set_option maxRecDepth 100000 in
theorem replay_Newest.calls (A0 : Option Addr) (c0 : Nat) (l0 : List S27) (a1 : Int) (r1 : List S33) (r2 : Int) (w : World) (hr0 : Kd.C k27 w A0 l0.length l0) (hc0 : l0.length ≤ c0) (h : replay_Newest.f l0 a1 = some (r1, r2)) :
    Calls Try.prog 9 #[.slice A0 l0.length c0, .int .i64 a1] w fun e w' => ∃ v0_ : Value, e = .returned (.tuple #[v0_, .int .i64 r2]) ∧ Kd.R k33 33 w' w.heap.size (fun _ => True) v0_ r1 ∧ Below w.heap.size w w' := by
  have hu27 := Try.underlying27
  have hu33 := Try.underlying33
  have HR := Aside0.mk hr0
  have HC := Aside0.mk hc0
  clear hr0 hc0
  have HB := Aside0.mk (Below.refl w.heap.size w)
  by_cases c1 : a1 < 1
  · unfold replay_Newest.f at h
    rw [if_pos c1] at h
    simp only [Option.some.injEq, Prod.mk.injEq] at h
    obtain ⟨rfl, rfl⟩ := h
    have c1b : decide (a1 < 1) = true := decide_eq_true c1
    clear c1
    go_enter Try.func9, Try.ntmps9
    go_wp2
    go_ret2
    exact ⟨_, rfl, Kd.R_nil _ _ _ _ _, HB.out⟩
  · by_cases c2 : 4096 < a1
    · unfold replay_Newest.f at h
      rw [if_neg c1, if_pos c2] at h
      simp only [Option.some.injEq, Prod.mk.injEq] at h
      obtain ⟨rfl, rfl⟩ := h
      have c1b : decide (a1 < 1) = false := decide_eq_false c1
      have c2b : decide (4096 < a1) = true := decide_eq_true c2
      clear c1 c2
      go_enter Try.func9, Try.ntmps9
      go_wp2
      go_ret2
      exact ⟨_, rfl, Kd.R_nil _ _ _ _ _, HB.out⟩
    · unfold replay_Newest.f at h
      rw [if_neg c1, if_neg c2] at h
      simp only [Option.some.injEq, Prod.mk.injEq] at h
      obtain ⟨h1, h2⟩ := h
      obtain ⟨N, rfl⟩ := Int.eq_ofNat_of_zero_le (show 0 ≤ a1 by omega)
      have HN := Aside0.mk (show 1 ≤ N ∧ N ≤ 4096 from by omega)
      have H1 := Aside0.mk h1
      have H2 := Aside0.mk h2
      have c1b : decide ((N : Int) < 1) = false := decide_eq_false c1
      have c2b : decide (4096 < (N : Int)) = false := decide_eq_false c2
      clear c1 c2 h1 h2
      go_enter Try.func9, Try.ntmps9
      go_wp2_with (first
        | ((with_reducible refine gate_dst (N := 18) rfl ?_); refine Kd.R_make k33 w.heap.size 33 rfl (N := 18) rfl 29 _ _ rfl (N : Int) rfl rfl Try.underlying29 (.agg #[.int .i64 0, .int .i64 0, .int .i64 0]) 24 info33_ rfl (by decide) (by omega) z33 (ok := fun _ => True) (okp := fun _ => False) (k33_mkM _ _ _ z33) (fun _ hk => hk.elim) trivial (by omega) (by have := HN.out; rw [Int.toNat_natCast]; omega) (by repeat (first | (with_reducible first | exact HB.out | apply below_alloc | apply pw_below_drewN | apply below_drew1) | exact HB.out)) (below_size (by repeat (first | (with_reducible first | exact HB.out | apply below_alloc | apply pw_below_drewN | apply below_drew1) | exact HB.out))) ?_; intro v1 w1 ho hb hg_ hnew_; clear hg_ hnew_ HB; rw [Int.toNat_natCast] at ho; have HB := Aside0.mk hb; clear hb; obtain ⟨g, cap, hv, hgb, hgl, _⟩ := Kd.R_form ho (by have := HN.out; simp; omega); rw [List.length_replicate] at hv; subst hv; have HR1 := Aside0.mk (Kd.R_mono (ok' := (fun k_ => k_ = g)) (Kd.R_tight rfl ho) (fun k_ h_ => by simp only [Value.ownBlock, Option.some.injEq] at h_; exact h_)); have GG := Aside0.mk hgb; clear ho hgb hgl))
      go_loopg [21] (N + 1) (fun kq v21 w' => ∃ i : Nat, v21 = .int .i64 (i : Int) ∧ Aside0 (kq + i = N + 1 ∧ i ≤ N) ∧ Aside0 (Kd.R k33 33 w' w.heap.size (fun k_ => k_ = g) (.slice (some ⟨g, 0, none⟩) N cap) (List.replicate i ⟨-1, 0, 0⟩ ++ List.replicate (N - i) z33)) ∧ Aside0 (Below w.heap.size w w'))
      case atStart => exact ⟨0, rfl, ⟨by omega, by omega⟩, ⟨by simpa using HR1.out⟩, HB⟩
      case round =>
        clear HR1 HB
        obtain ⟨i, rfl, HI, HR1, HB⟩ := hrel
        cases gk with
        | zero => have := HI.out; omega
        | succ k1 =>
          by_cases c3 : (i : Int) < (N : Int)
          · have c3b : decide ((i : Int) < (N : Int)) = true := decide_eq_true c3
            have hi : i < N := by omega
            have HI' := Aside0.mk hi
            have EW := Aside0.mk (show wrap64 ((i : Int) + 1) = ((i + 1 : Nat) : Int) from by have := HN.out; rw [wrap64]; omega)
            have q1 := eq_true c3
            obtain ⟨y, ey⟩ : ∃ y, y = (List.replicate i (⟨-1, 0, 0⟩ : S33) ++ List.replicate (N - i) z33).getD (i : Int).toNat z33 := ⟨_, rfl⟩
            have EY := Aside0.mk ey
            clear ey
            clear hi
            go_wp2_with (first
              | ((with_reducible refine gate_store (t := 3) (p := 27) rfl ?_); obtain ⟨c0_, cl_, cm_, cc_, _⟩ := Kd.R_elem HR1.out z33 (i : Int) (by omega) (by have := HI'.out; omega); rw [← EY.out] at cm_; obtain rfl := k33_openM cm_; refine Kd.R_store k33 (w0 := w) w.heap.size rfl rfl 3 (.tmp 27) (.const (.int .i64 (-1))) rfl 33 (i : Int) 0 _ (⟨-1, y.f1, y.f2⟩ : S33) (.int .i64 (-1)) [.int .i64 (-1)] _ (fun k_ => k_ = g) (fun _ => False) rfl ?hoff rfl rfl (by kernel_rfl) (by simp [Value.oneCell']) HR1.out (by omega) (by have := HI'.out; omega) cl_ cc_ (by decide) ?hM (fun _ h_ => h_.elim) (by repeat (first | (with_reducible first | exact HB.out | apply below_alloc | apply pw_below_drewN | apply below_drew1) | exact HB.out)) ?_; (case hM => exact k33_mkM _ _ _ (⟨-1, y.f1, y.f2⟩ : S33)); (case hoff => simp; rfl); intro w1 hr hb hg_; have HR2 := Aside0.mk hr; have HB2 := Aside0.mk hb; clear hr hb hg_))
            go_roundg k1
            case measure => have := HI.out; omega
            case rel => exact ⟨i + 1, congrArg (Value.int .i64) EW.out, ⟨by have := HI.out; omega, by have := HI'.out; omega⟩, ⟨by have := HR2.out; rw [EY.out, row_set HI'.out] at this; exact this⟩, HB2⟩
          · have c3b : decide ((i : Int) < (N : Int)) = false := decide_eq_false c3
            have hi : i = N := by have := HI.out; omega
            subst hi
            have n0_ := Aside0.mk (show Kd.R k33 33 wr w.heap.size (fun k_ => k_ = g) (.slice (some ⟨g, 0, none⟩) i cap) (List.replicate i ⟨-1, 0, 0⟩) from by have := HR1.out; simpa using this)
            clear HR1
            have HR1 := n0_
            clear n0_
            obtain ⟨N, eN⟩ : ∃ N, N = i := ⟨_, rfl⟩
            subst eN
            go_wp2_with (first
              | ((with_reducible refine gate_callee (f := 15) rfl ?_); refine goesL_ (some 31) rfl rfl Try.func15 (by kernel_rfl) rfl #[.slice A0 l0.length c0, .int .i64 (N : Int)] rfl (by (try simp only [List.map_toArray, List.map_cons, List.map_nil]); first | done | rfl) ?_; (with_reducible refine (replay_best.calls A0 c0 l0 (N : Int) _ ?side1 HC.out).mono ?_); (case side1 => exact Kd.C_below HR.out (by repeat (first | (with_reducible first | exact HB.out | apply below_alloc | apply pw_below_drewN | apply below_drew1) | exact HB.out))); rintro e w2 ⟨B, m, rfl, hM, hBs, hb⟩; refine ⟨_, rfl, ?_⟩; obtain ⟨f, hF, hfg⟩ := hM; have HMF := Aside0.mk hF; have HFG := Aside0.mk hfg; have NB := Aside0.mk (show g ≠ B from fun e_ => by have := Kd.R_lt HR1.out g (by simp [Value.ownBlock]); omega); have n0_ := Aside0.mk (Kd.R_below HR1.out hb); have n1_ := Aside0.mk (below_step (by repeat (first | (with_reducible first | exact HB.out | apply below_alloc | apply pw_below_drewN | apply below_drew1) | exact HB.out)) hb); clear HR1 HB; have HR1 := n0_; have HB := n1_; clear n0_ n1_ hb hF hfg hBs)
              | (at_range; refine mapF_range _ rfl _ 42 rfl 3 27 Try.underlying3 Try.underlying42 B m f rfl HMF.out ?_; intro w3 cnt0 hrg hg3 hs3; have GR := Aside0.mk (Kd.R_lt HR1.out g (by simp [Value.ownBlock])); have GRS := Aside0.mk (show w.heap.size ≤ w2.heap.size from below_size (by repeat (first | (with_reducible first | exact HB.out | apply below_alloc | apply pw_below_drewN | apply below_drew1) | exact HB.out))); have HRG := Aside0.mk hrg; have n0_ := Aside0.mk (Kd.R_grown HR1.out hg3 (fun _ _ => by simp)); have n1_ := Aside0.mk (below_none HB.out (below_size (by repeat (first | (with_reducible first | exact HB.out | apply below_alloc | apply pw_below_drewN | apply below_drew1) | exact HB.out))) hg3); clear HR1 HB; have HR1 := n0_; have HB := n1_; clear n0_ n1_ hrg hg3 hs3; go_frame))
            obtain ⟨r, er⟩ : ∃ r, r = w2.heap.size := ⟨_, rfl⟩
            rw [← er] at HRG
            have NR := Aside0.mk (show g ≠ r from by have := GR.out; omega)
            rw [← er]
            have GRW := Aside0.mk (show w.heap.size ≤ r from by have := HR1.out; have h2 := GRS.out; omega)
            clear er GR GRS
            go_loopg [8] (cnt0 + 1) (fun kq v8 w' => ∃ (left : Int → Prop) (cnt : Nat) (mo : Int) (xs : List S33), v8 = .int .i64 mo ∧ Aside0 (cnt + 1 ≤ kq) ∧ Aside0 (mapR w' Try.prog 3 B r m f left cnt) ∧ Aside0 (Kd.R k33 33 w' w.heap.size (fun k_ => k_ = g) (.slice (some ⟨g, 0, none⟩) N cap) xs) ∧ Aside0 (Inv N (bestF l0 (N : Int)) left mo xs) ∧ Aside0 (Below w.heap.size w w'))
            case atStart => exact ⟨_, _, 0, _, rfl, ⟨Nat.le_refl _⟩, HRG, HR1, ⟨inv_start N _ _ (fun j hj => by rcases HFG.out (j : Int) with ⟨q1, q2⟩ | ⟨v_, s_, q1, q2, _⟩ <;> rw [q1, q2] <;> simp)⟩, HB⟩
            case round =>
              clear HRG HR1 HB
              obtain ⟨left, cnt, mo, xs, rfl, HI2, HRG, HR1, HV, HB⟩ := hrel
              go_wp2_with (first
                | (at_next; refine mapF_next _ rfl _ rfl 3 Try.underlying3 B r m f left cnt rfl HRG.out ?_ ?_))
              · intro hl
                obtain ⟨e1, e2⟩ := inv_end HV.out (fun j hj => hl (j : Int) (WalkArith.wf_i64 (by have := HN.out; omega)))
                have e3 : mo = r2 := e2.trans H2.out
                subst e3
                have HR9 := Aside0.mk (show Kd.R k33 33 wr w.heap.size (fun k_ => k_ = g) (.slice (some ⟨g, 0, none⟩) N cap) r1 from by have := HR1.out; rw [e1, H1.out] at this; exact this)
                clear e1 e2 hl HR1 HV
                go_wp2
                go_ret2
                exact ⟨_, rfl, Kd.R_mono HR9.out (fun _ _ => trivial), HB.out⟩
              · intro x cv w4 cnt1 hwx hlx hfx hrg1 hlt hg1 hs1 hen
                rcases HFG.out x with ⟨q1, q2⟩ | ⟨v_, s, q1, q2, q5⟩
                · rw [q1] at hfx; cases hfx
                · have q6 : cv = v_ := by rw [q1] at hfx; exact (Option.some.inj hfx).symm
                  subst q6
                  unfold repsV at q5
                  subst q5
                  obtain ⟨p1, p2⟩ := best_prop q2
                  have p3 : 0 ≤ x ∧ x < (N : Int) := by rw [← p2]; unfold fcnt at p1; have := of_decide_eq_true p1; omega
                  obtain ⟨j, rfl⟩ := Int.eq_ofNat_of_zero_le p3.1
                  have HJ := Aside0.mk (show j < N from by omega)
                  have QS := Aside0.mk q2
                  have c5b : decide ((j : Int) < (N : Int)) = true := decide_eq_true p3.2
                  have q7 := eq_true p3.2
                  have n0_ := Aside0.mk (Kd.R_grown HR1.out hg1 (fun k_ hk_ e_ => NR.out (by cases e_; exact hk_.symm)))
                  have n1_ := Aside0.mk (below_row HB.out (below_size HB.out) hg1 GRW.out)
                  have n2_ := Aside0.mk hrg1
                  have HLT := Aside0.mk hlt
                  clear HR1 HB HRG hrg1 hg1 hs1 hlt q1 q2 p1 p2 p3 hfx hlx hwx
                  have HR1 := n0_
                  have HB := n1_
                  have HRG := n2_
                  clear n0_ n1_ n2_
                  cases gk with
                  | zero => have := HI2.out; omega
                  | succ k1 =>
                    go_wp2_with (first
                      | ((with_reducible refine gate_dst (N := 10) rfl ?_); refine box_event ?hg (N := 10) ?hd (cs := #[.int .i64 0, .int .i64 0, .int .i64 0, .int .i64 0, .slice none 0 0]) (t := 27) ?hr ?_; (case hd => rfl); (case hg => rfl); (case hr => first | (go_simp; done) | (go_simp; rfl)); intro g10 hg w5 hbox hb; have NE10 := Aside0.mk (show g ≠ g10 from fun e_ => by have := Kd.R_lt HR1.out g (by simp [Value.ownBlock]); omega); have GE10 := Aside0.mk (show w.heap.size ≤ g10 from by rw [hg]; exact below_size (by repeat (first | (with_reducible first | exact HB.out | apply below_alloc | apply pw_below_drewN | apply below_drew1) | exact HB.out))); have NB10 := Aside0.mk (show B ≠ g10 ∧ r ≠ g10 from by have h1 := mapR.lt HRG.out; have h2 := mapR_ltB HRG.out; omega); have n0_ := Aside0.mk (Kd.R_below HR1.out hb); have n1_ := Aside0.mk (below_step (by repeat (first | (with_reducible first | exact HB.out | apply below_alloc | apply pw_below_drewN | apply below_drew1) | exact HB.out)) hb); have n2_ := Aside0.mk (mapR.below HRG.out hb); have BK10 := Aside0.mk hbox; clear HR1 HB HRG; have HR1 := n0_; have HB := n1_; have HRG := n2_; clear n0_ n1_ n2_ hb hbox hg; have hz10_0 : w5.cell? ⟨g10, 0, none⟩ = some (.int .i64 0) := (blk_cell BK10.out 0).trans rfl; have hz10_1 : w5.cell? ⟨g10, 1, none⟩ = some (.int .i64 0) := (blk_cell BK10.out 1).trans rfl; have hz10_2 : w5.cell? ⟨g10, 2, none⟩ = some (.int .i64 0) := (blk_cell BK10.out 2).trans rfl; have hz10_3 : w5.cell? ⟨g10, 3, none⟩ = some (.int .i64 0) := (blk_cell BK10.out 3).trans rfl; have hz10_4 : w5.cell? ⟨g10, 4, none⟩ = some (.slice none 0 0) := (blk_cell BK10.out 4).trans rfl; have hfz10_0 := blk_frozen BK10.out 0; have hfz10_1 := blk_frozen BK10.out 1; have hfz10_2 := blk_frozen BK10.out 2; have hfz10_3 := blk_frozen BK10.out 3; have hfz10_4 := blk_frozen BK10.out 4)
                      | ((with_reducible refine gate_store (t := 33) (p := 49) rfl ?_); have HRW := Kd.R_move HR1.out (fun k_ hk_ => (set5_heap (show k_ ≠ g10 from fun e_ => NE10.out (hk_.symm.trans e_)) (.int .i64 s.f0) (.int .i64 s.f1.f0) (.int .i64 s.f1.f1) (.int .i64 s.f1.f2) (.slice s.f2.a s.f2.n s.f2.c))); obtain ⟨c0_, cl_, cm_, cc_, _⟩ := Kd.R_elem HRW z33 (j : Int) (by omega) (by have := HJ.out; omega); obtain rfl := k33_openM cm_; refine Kd.R_store k33 (w0 := w) w.heap.size rfl rfl 33 (.tmp 49) (.tmp 48) rfl 33 (j : Int) 0 _ (entryOf (some s)) (.agg #[.int .i64 s.f0, .int .i64 s.f1.f2, .int .i64 s.f1.f0]) [.int .i64 s.f0, .int .i64 s.f1.f2, .int .i64 s.f1.f0] _ (fun k_ => k_ = g) (fun _ => False) rfl ?hoff rfl rfl (by kernel_rfl) (by simp [Value.oneCell']) HRW (by omega) (by have := HJ.out; omega) cl_ cc_ (show (3 : Nat) ≤ 3 from Nat.le_refl 3) ?hM (fun _ h_ => h_.elim) (by repeat (first | (with_reducible first | exact HB.out | apply below_alloc | apply pw_below_drewN | apply below_drew1 | refine below_set ?_ GE10.out) | exact HB.out)) ?_; (case hM => exact k33_mkM _ _ _ (entryOf (some s))); (case hoff => simp; rfl); intro w6 hr hb hg_; rw [Int.toNat_natCast] at hr; have HR2 := Aside0.mk hr; have HB2 := Aside0.mk hb; have HRG2 := Aside0.mk (mapR_kept (mapR_set5 HRG.out NB10.out.1 NB10.out.2 (.int .i64 s.f0) (.int .i64 s.f1.f0) (.int .i64 s.f1.f1) (.int .i64 s.f1.f2) (.slice s.f2.a s.f2.n s.f2.c)) hg_ (fun e_ => NB.out (by cases e_; rfl)) (fun e_ => NR.out (by cases e_; rfl))); have BK2 := Aside0.mk (blk_grown (blk5 BK10.out (.int .i64 s.f0) (.int .i64 s.f1.f0) (.int .i64 s.f1.f1) (.int .i64 s.f1.f2) (.slice s.f2.a s.f2.n s.f2.c)) hg_ (fun e_ => NE10.out (by cases e_; rfl))); clear hr hb hg_ HRW HR1 HB HRG BK10; have hy10_0 : w6.cell? ⟨g10, 0, none⟩ = some (.int .i64 s.f0) := (blk_cell BK2.out 0).trans rfl; have hy10_1 : w6.cell? ⟨g10, 1, none⟩ = some (.int .i64 s.f1.f0) := (blk_cell BK2.out 1).trans rfl; have hy10_2 : w6.cell? ⟨g10, 2, none⟩ = some (.int .i64 s.f1.f1) := (blk_cell BK2.out 2).trans rfl; have hy10_3 : w6.cell? ⟨g10, 3, none⟩ = some (.int .i64 s.f1.f2) := (blk_cell BK2.out 3).trans rfl; have hy10_4 : w6.cell? ⟨g10, 4, none⟩ = some (.slice s.f2.a s.f2.n s.f2.c) := (blk_cell BK2.out 4).trans rfl))
                    · go_roundg k1
                      case measure => omega
                      case rel => exact ⟨_, cnt1, max mo s.f1.f2, _, (by first | rfl | exact congrArg (Value.int .i64) (by omega)), ⟨by have := HI2.out; have := HLT.out; omega⟩, HRG2, HR2, ⟨inv_step HV.out HJ.out QS.out⟩, HB2⟩
                    · go_roundg k1
                      case measure => omega
                      case rel => exact ⟨_, cnt1, max mo s.f1.f2, _, (by first | rfl | exact congrArg (Value.int .i64) (by omega)), ⟨by have := HI2.out; have := HLT.out; omega⟩, HRG2, HR2, ⟨inv_step HV.out HJ.out QS.out⟩, HB2⟩

end Go.Proofs.Ytlheknapgonakaa.X
