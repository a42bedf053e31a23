-- laid by wip/tools/xprint.py (our own changes over the printer)
import Derived.Test.YthoebkkohdfgeaaX0
import Derived.Test.YthoebkkohdfgeaaX1
import Derived.Laws.EntriesVeiled
import Derived.Laws.CopyOwn
import Derived.Deep.RegionWith
import Derived.Deep.RegionLaw
namespace Go.Proofs.Ythoebkkohdfgeaa.X
open Go.RowKit Go.Proofs.YthoebkkohdfgeaaW.PrintWords Go.Proofs.YthoebkkohdfgeaaW.PrintLast Go.Proofs.YthoebkkohdfgeaaW.PrintMore
attribute [local go_sem] max2_int min2_int max_two min_two max_three min_three max_four min_four   -- for this text's walks alone
set_option linter.unusedVariables false
set_option linter.unusedSimpArgs false

/-! ### oob_Unpack: function 18 -/
theorem drawn_below {w w' : World} (h : Drawn0 w w') : Below w.heap.size w w' := by
  obtain ⟨nd, rfl⟩ := h
  exact pw_below_drewN (Below.refl _ _) nd
/-- the number that a row's rest begins with -/
theorem unpack_take_len {n : Nat} (m q : Nat) (ad : Addr) (c : Nat) (L : List Int) (r e : Int) (w : World) (hL : L.length = n) (hm : m < n) (hq : n - m = q) {m0 : Nat} (hr : Kd.C (Kd.int .u8) w (some ad) n L) (hc : n ≤ c) (h : wire_TakeFixed.f (L.drop (m0 + 1)) = some (r, e)) (hm0 : m0 + 1 = m := by rfl) :
    Calls Try.prog 29 #[.slice (some ⟨ad.block, ad.off + m, none⟩) q (c - m)] w fun z w' => z = .returned (.tuple #[.int .u32 r, .int .i64 e]) ∧ Drawn0 w w' := by
  subst hL hm0 hq
  have hd := Kd.C_drop (m := m0 + 1) hr (by omega) hc
  rw [if_neg (by omega)] at hd
  have hl : (L.drop (m0 + 1)).length = L.length - (m0 + 1) := List.length_drop
  have hz : (Kd.int .u8).sz = 1 := rfl
  rw [hz, Nat.mul_one] at hd
  have := wire_TakeFixed.calls (some (ad.add (m0 + 1))) (c - (m0 + 1)) (L.drop (m0 + 1)) r e w hd (by omega) h
  rw [hl] at this
  exact this
theorem cells_of {w : World} {ad : Addr} {n : Nat} {L : List Int} (hr : Kd.C (Kd.int .u8) w (some ad) n L) (m : Nat) (hm : m ≤ n) :
    ∀ j v, ((L.take m).map (Value.int .u8))[j]? = some v → w.cell? (ad.add j) = some v := by
  intro j v hj
  obtain ⟨hl, _, h⟩ := Kd.reads_of_C (enc := Value.int .u8) (d := (0 : Int)) (h1 := fun _ => rfl) hr
  rw [List.getElem?_map] at hj
  obtain ⟨x, hx, rfl⟩ := Option.map_eq_some_iff.mp hj
  obtain ⟨hlt, hv⟩ := List.getElem?_eq_some_iff.mp hx
  rw [List.length_take] at hlt
  obtain ⟨ad2, e, hc⟩ := h (by omega)
  cases e
  rw [hc j (by omega), List.getD_eq_getElem?_getD, ← hv, List.getElem_take, List.getElem?_eq_getElem (by omega)]
  rfl
theorem range_eq : ∀ (xs ys : List Int), xs.length = ys.length → ((List.range xs.length).all fun i => xs.getD i 0 == ys.getD i 0) = (xs == ys)
  | [], [], _ => rfl
  | x :: xs, y :: ys, h => by
    have ih := range_eq xs ys (by simpa using h)
    rw [List.length_cons, List.range_succ_eq_map, List.all_cons, List.all_map]
    simp only [List.getD_cons_zero, Function.comp_def, List.getD_cons_succ, ih]
    simp [List.cons_beq_cons]
  | [], _ :: _, h => by simp at h
  | _ :: _, [], h => by simp at h
/-- two arrays of bytes, compared -/
theorem eq_arr {P : Program} (w : World) (d : Nat) (t e : TypeId) (n : Nat) (ht : P.underlying t = some (.array n e)) (he : P.underlying e = some (.int .u8)) (hsz : ∀ w, (sizeOf e).run P w = .ok 1 w) (xs ys : List Int) (hx : xs.length = n) (hy : ys.length = n) :
    (Op.equalIn (d + 2) t (.agg (xs.map (Value.int .u8)).toArray) (.agg (ys.map (Value.int .u8)).toArray)).run P w = .ok (xs == ys) w := by
  rw [← range_eq xs ys (hx.trans hy.symm), hx, List.range_eq_range', Op.equalIn]
  simp only [Sem.run_bind, run_underlying ht, Result.andThen_ok, hsz, Std.Legacy.Range.forIn_eq_forIn_range', Std.Legacy.Range.size, Nat.sub_zero, Nat.add_sub_cancel, Nat.div_one]
  have hl : ∀ i ∈ List.range' 0 n 1, i < n := fun i hi => by simpa using (List.mem_range'_1.1 hi).2
  generalize List.range' 0 n 1 = l at hl ⊢
  induction l with
  | nil => simp
  | cons i l ih =>
    have hi : i < n := hl i (by simp)
    have px : (part e (xs.map (Value.int .u8)).toArray (i * 1)).run P w = .ok (Value.int .u8 (xs.getD i 0)) w := by
      simp [part, isAgg, run_underlying he, List.getD, List.getElem?_eq_getElem (show i < xs.length by omega)]
    have py : (part e (ys.map (Value.int .u8)).toArray (i * 1)).run P w = .ok (Value.int .u8 (ys.getD i 0)) w := by
      simp [part, isAgg, run_underlying he, List.getD, List.getElem?_eq_getElem (show i < ys.length by omega)]
    have pe : (Op.equalIn (d + 1) e (Value.int .u8 (xs.getD i 0)) (Value.int .u8 (ys.getD i 0))).run P w = .ok (xs.getD i 0 == ys.getD i 0) w := run_equalIn_int w d e .u8 .u8 _ _ he
    simp only [List.forIn_cons, Sem.run_bind, px, py, pe, Result.andThen_ok, List.all_cons]
    cases hb : (xs.getD i 0 == ys.getD i 0)
    · simp
    · simp only [Bool.not_true, Bool.false_eq_true, if_false, Sem.run_pure, Result.andThen_ok, Bool.true_and]
      exact ih fun j hj => hl j (by simp [hj])
theorem unpack_sum_pre {n : Nat} (m : Nat) (k : Nat) (ad : Addr) (L : List Int) (r : Int) (w : World) (hL : L.length = n) (hm : m ≤ n) (hr : Kd.C (Kd.int .u8) w (some ad) n L) (c : Nat) (hc : n ≤ c) (h : crc_Sum.f k (L.take m) = some r) :
    Calls Try.prog 33 #[.slice (some ad) m c] w fun e w' => e = .returned (.int .u32 r) ∧ Drawn0 w w' := by
  subst hL
  have ht := Kd.C_take (m := m) hr hm
  have hl : (L.take m).length = m := by rw [List.length_take]; omega
  have := crc_Sum.calls k (some ad) c (L.take m) r w ht (by omega) h
  rw [hl] at this
  exact this
theorem unpack_add_len {n : Nat} (k : Nat) (a0 : Int) (A : Option Addr) (L : List Int) (r : Int) (w : World) (hL : L.length = n) (hr : Kd.C (Kd.int .u8) w A n L) (c : Nat) (hc : n ≤ c) (h : crc_Add.f k a0 L = some r) :
    Calls Try.prog 32 #[.int .u32 a0, .slice A n c] w fun e w' => e = .returned (.int .u32 r) ∧ Drawn0 w w' := by
  subst hL
  exact crc_Add.calls k a0 A c L r w hr hc h
set_option maxHeartbeats 2000000 in
set_option maxRecDepth 100000 in
theorem oob_unpack_a (k : Nat) (ad : Addr) (c0 : Nat) (l0 : List Int) (A1 : Option Addr) (c1 : Nat) (l1 : List Int) (lba e1 low e2 high e3  : Int) (w : World) (hr0 : Kd.C (Kd.int .u8) w (some ad) 17 l0) (hc0 : 17 ≤ c0) (hr1 : Kd.C (Kd.int .u8) w A1 16 l1) (hc1 : 16 ≤ c1)
    (hl0 : l0.length = 17) (hl1 : l1.length = 16)
    (hT1 : wire_TakeFixed.f (l0.drop 1) = some (lba, e1)) (hT2 : wire_TakeFixed.f (l0.drop 5) = some (low, e2)) (hT3 : wire_TakeFixed.f (l0.drop 9) = some (high, e3)) (hh : ¬ high ≤ 262144) :
    Calls Try.prog 18 #[.slice (some ad) 17 c0, .slice A1 16 c1] w fun e w' => e = .returned (.tuple #[.agg #[.int .i64 0, .int .i64 0, .int .i64 0], .int .i64 3]) ∧ Below w.heap.size w w' := by
  have HR0 := Aside0.mk hr0
  have HC0 := Aside0.mk hc0
  have HR1 := Aside0.mk hr1
  have HC1 := Aside0.mk hc1
  have HLN := Aside0.mk hl0
  have HLM := Aside0.mk hl1
  have T1 := Aside0.mk hT1
  have T2 := Aside0.mk hT2
  have T3 := Aside0.mk hT3
  have i1 : ¬ c0 = 1 := by omega
  have i5 : ¬ c0 = 5 := by omega
  have i9 : ¬ c0 = 9 := by omega
  have i13 : ¬ c0 = 13 := by omega
  have j13 : ¬ (c0 : Int) < 13 := by omega
  have hhb : decide (262144 < high) = true := decide_eq_true (by omega)
  clear hr0 hc0 hr1 hc1 hl0 hl1 hT1 hT2 hT3 hh
  have hu65 := Try.underlying65
  have hu40 := Try.underlying40
  have HB := Aside0.mk (Below.refl w.heap.size w)
  go_enter Try.func18, Try.ntmps18
  go_wp2_with (first
    | ((with_reducible refine gate_dst (N := 4) rfl ?_); refine box_event ?hg (N := 4) ?hd (cs := #[.int .i64 0, .int .i64 0, .int .i64 0]) (t := 40) ?hr ?_; (case hd => rfl); (case hg => rfl); (case hr => first | (go_simp; done) | (go_simp; rfl)); intro g1 hg w1 hbox hb; have G1 := Aside0.mk (by rw [hg]; exact (below_size (by repeat (first | (with_reducible first | exact HB.out | apply below_alloc | apply pw_below_drewN | apply below_drew1) | exact HB.out))) : w.heap.size ≤ g1); have p_ := Aside0.mk hbox; have m_ := Aside0.mk (below_step (by repeat (first | (with_reducible first | exact HB.out | apply below_alloc | apply pw_below_drewN | apply below_drew1) | exact HB.out)) hb); clear HB; have HB := m_; clear m_; clear hb; have B1 := p_; clear p_ hbox hg)
    | ((with_reducible refine gate_dst (N := 28) rfl ?_); refine goesL_ (some 28) rfl rfl Try.func29 (by kernel_rfl) rfl #[.slice (some ⟨ad.block, ad.off + 1, none⟩) 16 (c0 - 1)] rfl (by (try simp only [List.map_toArray, List.map_cons, List.map_nil]); first | done | rfl) ?_; (with_reducible refine (unpack_take_len 1 16 ad c0 l0 lba e1 _ HLN.out (by decide) rfl ?side1 HC0.out T1.out).mono ?_); (case side1 => exact (Kd.C_below HR0.out (by repeat (first | (with_reducible first | exact HB.out | apply below_alloc | apply pw_below_drewN | apply below_drew1 | refine below_set ?_ G1.out) | exact HB.out)))); rintro e w2 ⟨rfl, hd_⟩; have hb := drawn_below hd_; clear hd_; refine ⟨_, rfl, ?_⟩; have m_ := Aside0.mk (below_step (by repeat (first | (with_reducible first | exact HB.out | apply below_alloc | apply pw_below_drewN | apply below_drew1 | refine below_set ?_ G1.out) | exact HB.out)) hb); have n1_ := Aside0.mk (blk_below (g := g1) (o := .cells #[.int .i64 0, .int .i64 0, .int .i64 0] 40 (0, 0)) (by (with_reducible repeat (first | refine blk_drewN ?_ _ | refine blk_drew ?_ | refine blk_alloc ?_ _)); exact B1.out) hb); clear HB B1; have HB := m_; have B1 := n1_; clear m_ n1_; clear hb)
    | ((with_reducible refine gate_dst (N := 34) rfl ?_); refine goesL_ (some 34) rfl rfl Try.func29 (by kernel_rfl) rfl #[.slice (some ⟨ad.block, ad.off + 5, none⟩) 12 (c0 - 5)] rfl (by (try simp only [List.map_toArray, List.map_cons, List.map_nil]); first | done | rfl) ?_; (with_reducible refine (unpack_take_len 5 12 ad c0 l0 low e2 _ HLN.out (by decide) rfl ?side1 HC0.out T2.out).mono ?_); (case side1 => exact (Kd.C_below HR0.out (by repeat (first | (with_reducible first | exact HB.out | apply below_alloc | apply pw_below_drewN | apply below_drew1 | refine below_set ?_ G1.out) | exact HB.out)))); rintro e w3 ⟨rfl, hd_⟩; have hb := drawn_below hd_; clear hd_; refine ⟨_, rfl, ?_⟩; have m_ := Aside0.mk (below_step (by repeat (first | (with_reducible first | exact HB.out | apply below_alloc | apply pw_below_drewN | apply below_drew1 | refine below_set ?_ G1.out) | exact HB.out)) hb); have n1_ := Aside0.mk (blk_below (g := g1) (o := .cells #[.int .i64 0, .int .i64 0, .int .i64 0] 40 (0, 0)) (by (with_reducible repeat (first | refine blk_drewN ?_ _ | refine blk_drew ?_ | refine blk_alloc ?_ _)); exact B1.out) hb); clear HB B1; have HB := m_; have B1 := n1_; clear m_ n1_; clear hb)
    | ((with_reducible refine gate_dst (N := 40) rfl ?_); refine goesL_ (some 40) rfl rfl Try.func29 (by kernel_rfl) rfl #[.slice (some ⟨ad.block, ad.off + 9, none⟩) 8 (c0 - 9)] rfl (by (try simp only [List.map_toArray, List.map_cons, List.map_nil]); first | done | rfl) ?_; (with_reducible refine (unpack_take_len 9 8 ad c0 l0 high e3 _ HLN.out (by decide) rfl ?side1 HC0.out T3.out).mono ?_); (case side1 => exact (Kd.C_below HR0.out (by repeat (first | (with_reducible first | exact HB.out | apply below_alloc | apply pw_below_drewN | apply below_drew1 | refine below_set ?_ G1.out) | exact HB.out)))); rintro e w4 ⟨rfl, hd_⟩; have hb := drawn_below hd_; clear hd_; refine ⟨_, rfl, ?_⟩; have m_ := Aside0.mk (below_step (by repeat (first | (with_reducible first | exact HB.out | apply below_alloc | apply pw_below_drewN | apply below_drew1 | refine below_set ?_ G1.out) | exact HB.out)) hb); have n1_ := Aside0.mk (blk_below (g := g1) (o := .cells #[.int .i64 0, .int .i64 0, .int .i64 0] 40 (0, 0)) (by (with_reducible repeat (first | refine blk_drewN ?_ _ | refine blk_drew ?_ | refine blk_alloc ?_ _)); exact B1.out) hb); clear HB B1; have HB := m_; have B1 := n1_; clear m_ n1_; clear hb; have z0 : w4.cell? ⟨g1, 0, none⟩ = some (.int .i64 0) := (blk_cell B1.out 0).trans rfl; have zf0 := blk_frozen B1.out 0; have z1 : w4.cell? ⟨g1, 1, none⟩ = some (.int .i64 0) := (blk_cell B1.out 1).trans rfl; have zf1 := blk_frozen B1.out 1; have z2 : w4.cell? ⟨g1, 2, none⟩ = some (.int .i64 0) := (blk_cell B1.out 2).trans rfl; have zf2 := blk_frozen B1.out 2))
  refine bodyPost_ret (results_ct rfl _ _ g1 40 #[.int .i64 0, .int .i64 0, .int .i64 0] (0, 0) _ rfl (by (with_reducible repeat (first | refine blk_drewN ?_ _ | refine blk_drew ?_ | refine blk_alloc ?_ _)); refine blk_put (cs := #[.int .i64 0, .int .i64 0, .int .i64 0]) ?_ 2 _ rfl; (with_reducible repeat (first | refine blk_drewN ?_ _ | refine blk_drew ?_ | refine blk_alloc ?_ _)); refine blk_put (cs := #[.int .i64 0, .int .i64 0, .int .i64 0]) ?_ 1 _ rfl; (with_reducible repeat (first | refine blk_drewN ?_ _ | refine blk_drew ?_ | refine blk_alloc ?_ _)); refine blk_put (cs := #[.int .i64 0, .int .i64 0, .int .i64 0]) ?_ 0 _ rfl; (with_reducible repeat (first | refine blk_drewN ?_ _ | refine blk_drew ?_ | refine blk_alloc ?_ _)); exact B1.out) Try.underlying40 rfl (by kernel_rfl)) rfl ?_
  exact ⟨rfl, by repeat (first | (with_reducible first | exact HB.out | apply below_alloc | apply pw_below_drewN | apply below_drew1 | refine below_set ?_ G1.out) | exact HB.out)⟩
set_option maxHeartbeats 2000000 in
set_option maxRecDepth 100000 in
theorem oob_unpack_b (k : Nat) (ad : Addr) (c0 : Nat) (l0 : List Int) (A1 : Option Addr) (c1 : Nat) (l1 : List Int) (lba e1 low e2 high e3 o0 o1 o2 : Int) (y0 y1 y2 y3 y4 y5 y6 y7 y8 y9 y10 y11 y12 : Int) (w : World) (hr0 : Kd.C (Kd.int .u8) w (some ad) 17 l0) (hc0 : 17 ≤ c0) (hr1 : Kd.C (Kd.int .u8) w A1 16 l1) (hc1 : 16 ≤ c1)
    (hl0 : l0.length = 17) (hl1 : l1.length = 16) (hY : l0.take 13 = [y0, y1, y2, y3, y4, y5, y6, y7, y8, y9, y10, y11, y12])
    (hT1 : wire_TakeFixed.f (l0.drop 1) = some (lba, e1)) (hT2 : wire_TakeFixed.f (l0.drop 5) = some (low, e2)) (hT3 : wire_TakeFixed.f (l0.drop 9) = some (high, e3)) (hh : high ≤ 262144) (E0 : wrap64 y0 = o0) (E1 : wrap64 lba = o1) (E2 : Go.bits .or .i64 (wrap64 (wrap64 high * 4294967296)) (wrap64 low) = o2) (hR : oob_Right.f o0 o1 o2 = some false) :
    Calls Try.prog 18 #[.slice (some ad) 17 c0, .slice A1 16 c1] w fun e w' => e = .returned (.tuple #[.agg #[.int .i64 0, .int .i64 0, .int .i64 0], .int .i64 3]) ∧ Below w.heap.size w w' := by
  have HR0 := Aside0.mk hr0
  have HC0 := Aside0.mk hc0
  have HR1 := Aside0.mk hr1
  have HC1 := Aside0.mk hc1
  have HLN := Aside0.mk hl0
  have HLM := Aside0.mk hl1
  have T1 := Aside0.mk hT1
  have T2 := Aside0.mk hT2
  have T3 := Aside0.mk hT3
  have HCE : Aside0 (∀ W, Below w.heap.size w W → ∀ j v, ([.int .u8 y0, .int .u8 y1, .int .u8 y2, .int .u8 y3, .int .u8 y4, .int .u8 y5, .int .u8 y6, .int .u8 y7, .int .u8 y8, .int .u8 y9, .int .u8 y10, .int .u8 y11, .int .u8 y12] : List Value)[j]? = some v → W.cell? (ad.add j) = some v) := ⟨fun W hW => by have := cells_of (Kd.C_below hr0 hW) 13 (by decide); rw [hY] at this; exact this⟩
  have i1 : ¬ c0 = 1 := by omega
  have i5 : ¬ c0 = 5 := by omega
  have i9 : ¬ c0 = 9 := by omega
  have i13 : ¬ c0 = 13 := by omega
  have j13 : ¬ (c0 : Int) < 13 := by omega
  have hhb : decide (262144 < high) = false := decide_eq_false (by omega)
  clear hr0 hc0 hr1 hc1 hl0 hl1 hT1 hT2 hT3 hh
  have HRT := Aside0.mk hR
  clear hR
  have hu65 := Try.underlying65
  have hu40 := Try.underlying40
  have HB := Aside0.mk (Below.refl w.heap.size w)
  go_enter Try.func18, Try.ntmps18
  go_wp2_with (first
    | ((with_reducible refine gate_dst (N := 4) rfl ?_); refine box_event ?hg (N := 4) ?hd (cs := #[.int .i64 0, .int .i64 0, .int .i64 0]) (t := 40) ?hr ?_; (case hd => rfl); (case hg => rfl); (case hr => first | (go_simp; done) | (go_simp; rfl)); intro g1 hg w1 hbox hb; have G1 := Aside0.mk (by rw [hg]; exact (below_size (by repeat (first | (with_reducible first | exact HB.out | apply below_alloc | apply pw_below_drewN | apply below_drew1) | exact HB.out))) : w.heap.size ≤ g1); have p_ := Aside0.mk hbox; have m_ := Aside0.mk (below_step (by repeat (first | (with_reducible first | exact HB.out | apply below_alloc | apply pw_below_drewN | apply below_drew1) | exact HB.out)) hb); clear HB; have HB := m_; clear m_; clear hb; have B1 := p_; clear p_ hbox hg)
    | ((with_reducible refine gate_dst (N := 28) rfl ?_); refine goesL_ (some 28) rfl rfl Try.func29 (by kernel_rfl) rfl #[.slice (some ⟨ad.block, ad.off + 1, none⟩) 16 (c0 - 1)] rfl (by (try simp only [List.map_toArray, List.map_cons, List.map_nil]); first | done | rfl) ?_; (with_reducible refine (unpack_take_len 1 16 ad c0 l0 lba e1 _ HLN.out (by decide) rfl ?side1 HC0.out T1.out).mono ?_); (case side1 => exact (Kd.C_below HR0.out (by repeat (first | (with_reducible first | exact HB.out | apply below_alloc | apply pw_below_drewN | apply below_drew1 | refine below_set ?_ G1.out) | exact HB.out)))); rintro e w2 ⟨rfl, hd_⟩; have hb := drawn_below hd_; clear hd_; refine ⟨_, rfl, ?_⟩; have m_ := Aside0.mk (below_step (by repeat (first | (with_reducible first | exact HB.out | apply below_alloc | apply pw_below_drewN | apply below_drew1 | refine below_set ?_ G1.out) | exact HB.out)) hb); have n1_ := Aside0.mk (blk_below (g := g1) (o := .cells #[.int .i64 0, .int .i64 0, .int .i64 0] 40 (0, 0)) (by (with_reducible repeat (first | refine blk_drewN ?_ _ | refine blk_drew ?_ | refine blk_alloc ?_ _)); exact B1.out) hb); clear HB B1; have HB := m_; have B1 := n1_; clear m_ n1_; clear hb)
    | ((with_reducible refine gate_dst (N := 34) rfl ?_); refine goesL_ (some 34) rfl rfl Try.func29 (by kernel_rfl) rfl #[.slice (some ⟨ad.block, ad.off + 5, none⟩) 12 (c0 - 5)] rfl (by (try simp only [List.map_toArray, List.map_cons, List.map_nil]); first | done | rfl) ?_; (with_reducible refine (unpack_take_len 5 12 ad c0 l0 low e2 _ HLN.out (by decide) rfl ?side1 HC0.out T2.out).mono ?_); (case side1 => exact (Kd.C_below HR0.out (by repeat (first | (with_reducible first | exact HB.out | apply below_alloc | apply pw_below_drewN | apply below_drew1 | refine below_set ?_ G1.out) | exact HB.out)))); rintro e w3 ⟨rfl, hd_⟩; have hb := drawn_below hd_; clear hd_; refine ⟨_, rfl, ?_⟩; have m_ := Aside0.mk (below_step (by repeat (first | (with_reducible first | exact HB.out | apply below_alloc | apply pw_below_drewN | apply below_drew1 | refine below_set ?_ G1.out) | exact HB.out)) hb); have n1_ := Aside0.mk (blk_below (g := g1) (o := .cells #[.int .i64 0, .int .i64 0, .int .i64 0] 40 (0, 0)) (by (with_reducible repeat (first | refine blk_drewN ?_ _ | refine blk_drew ?_ | refine blk_alloc ?_ _)); exact B1.out) hb); clear HB B1; have HB := m_; have B1 := n1_; clear m_ n1_; clear hb)
    | ((with_reducible refine gate_dst (N := 40) rfl ?_); refine goesL_ (some 40) rfl rfl Try.func29 (by kernel_rfl) rfl #[.slice (some ⟨ad.block, ad.off + 9, none⟩) 8 (c0 - 9)] rfl (by (try simp only [List.map_toArray, List.map_cons, List.map_nil]); first | done | rfl) ?_; (with_reducible refine (unpack_take_len 9 8 ad c0 l0 high e3 _ HLN.out (by decide) rfl ?side1 HC0.out T3.out).mono ?_); (case side1 => exact (Kd.C_below HR0.out (by repeat (first | (with_reducible first | exact HB.out | apply below_alloc | apply pw_below_drewN | apply below_drew1 | refine below_set ?_ G1.out) | exact HB.out)))); rintro e w4 ⟨rfl, hd_⟩; have hb := drawn_below hd_; clear hd_; refine ⟨_, rfl, ?_⟩; have m_ := Aside0.mk (below_step (by repeat (first | (with_reducible first | exact HB.out | apply below_alloc | apply pw_below_drewN | apply below_drew1 | refine below_set ?_ G1.out) | exact HB.out)) hb); have n1_ := Aside0.mk (blk_below (g := g1) (o := .cells #[.int .i64 0, .int .i64 0, .int .i64 0] 40 (0, 0)) (by (with_reducible repeat (first | refine blk_drewN ?_ _ | refine blk_drew ?_ | refine blk_alloc ?_ _)); exact B1.out) hb); clear HB B1; have HB := m_; have B1 := n1_; clear m_ n1_; clear hb; have hy0 : w4.cell? ad = some (.int .u8 y0) := HCE.out _ HB.out 0 _ rfl)
    | ((with_reducible refine gate_dst (N := 12) rfl ?_); refine box_event ?hg (N := 12) ?hd (cs := #[.int .i64 0, .int .i64 0, .int .i64 0]) (t := 40) ?hr ?_; (case hd => rfl); (case hg => rfl); (case hr => first | (go_simp; done) | (go_simp; rfl)); intro g2 hg w5 hbox hb; have G2 := Aside0.mk (by rw [hg]; exact (below_size (by repeat (first | (with_reducible first | exact HB.out | apply below_alloc | apply pw_below_drewN | apply below_drew1 | refine below_set ?_ G1.out) | exact HB.out))) : w.heap.size ≤ g2); have L12 := Aside0.mk (by rw [hg]; exact blk_lt (by (with_reducible repeat (first | refine blk_drewN ?_ _ | refine blk_drew ?_ | refine blk_alloc ?_ _)); exact B1.out) : g1 < g2); have p_ := Aside0.mk hbox; have m_ := Aside0.mk (below_step (by repeat (first | (with_reducible first | exact HB.out | apply below_alloc | apply pw_below_drewN | apply below_drew1 | refine below_set ?_ G1.out) | exact HB.out)) hb); have n1_ := Aside0.mk (blk_below (g := g1) (o := .cells #[.int .i64 0, .int .i64 0, .int .i64 0] 40 (0, 0)) (by (with_reducible repeat (first | refine blk_drewN ?_ _ | refine blk_drew ?_ | refine blk_alloc ?_ _)); exact B1.out) hb); clear HB B1; have HB := m_; have B1 := n1_; clear m_ n1_; clear hb; have B2 := p_; clear p_ hbox hg; have s0 : w5.cell? ⟨g2, 0, none⟩ = some (.int .i64 0) := (blk_cell B2.out 0).trans rfl; have sf0 := blk_frozen B2.out 0; have s1 : w5.cell? ⟨g2, 1, none⟩ = some (.int .i64 0) := (blk_cell B2.out 1).trans rfl; have sf1 := blk_frozen B2.out 1; have s2 : w5.cell? ⟨g2, 2, none⟩ = some (.int .i64 0) := (blk_cell B2.out 2).trans rfl; have sf2 := blk_frozen B2.out 2)
    | ((with_reducible refine gate_dst (N := 13) rfl ?_); have ne_ : g1 ≠ g2 := (by have := L12.out; omega); have q1_ := Aside0.mk (blk_far (p := ⟨g2, 2, none⟩) (blk_far (p := ⟨g2, 1, none⟩) (blk_far (p := ⟨g2, 0, none⟩) B1.out ne_ (.int .i64 o0)) ne_ (.int .i64 o1)) ne_ (.int .i64 o2)); have q2_ := Aside0.mk (blk_put (cs' := #[.int .i64 o0, .int .i64 o1, .int .i64 o2]) (blk_put (cs' := #[.int .i64 o0, .int .i64 o1, .int .i64 0]) (blk_put (cs' := #[.int .i64 o0, .int .i64 0, .int .i64 0]) B2.out 0 (.int .i64 o0) rfl) 1 (.int .i64 o1) rfl) 2 (.int .i64 o2) rfl); have q3_ : Aside0 (Below w.heap.size w (((w5.setCell ⟨g2, 0, none⟩ (.int .i64 o0)).setCell ⟨g2, 1, none⟩ (.int .i64 o1)).setCell ⟨g2, 2, none⟩ (.int .i64 o2))) := Aside0.mk (below_set (below_set (below_set HB.out G2.out) G2.out) G2.out); clear B1 B2 HB ne_ s0 sf0 s1 sf1 s2 sf2; generalize (((w5.setCell ⟨g2, 0, none⟩ (.int .i64 o0)).setCell ⟨g2, 1, none⟩ (.int .i64 o1)).setCell ⟨g2, 2, none⟩ (.int .i64 o2)) = w6 at q1_ q2_ q3_ ⊢; have B1 := q1_; have B2 := q2_; have HB := q3_; clear q1_ q2_ q3_; refine box_event ?hg (N := 13) ?hd (cs := (List.replicate 13 (Value.int .u8 0)).toArray) (t := 65) ?hr ?_; (case hd => rfl); (case hg => rfl); (case hr => first | (go_simp; done) | (go_simp; rfl)); intro g3 hg w7 hbox hb; have G3 := Aside0.mk (by rw [hg]; exact (below_size (by repeat (first | (with_reducible first | exact HB.out | apply below_alloc | apply pw_below_drewN | apply below_drew1 | refine below_set ?_ G1.out) | exact HB.out))) : w.heap.size ≤ g3); have L13 := Aside0.mk (by rw [hg]; exact blk_lt (by (with_reducible repeat (first | refine blk_drewN ?_ _ | refine blk_drew ?_ | refine blk_alloc ?_ _)); exact B1.out) : g1 < g3); have L23 := Aside0.mk (by rw [hg]; exact blk_lt (by (with_reducible repeat (first | refine blk_drewN ?_ _ | refine blk_drew ?_ | refine blk_alloc ?_ _)); exact B2.out) : g2 < g3); have p_ := Aside0.mk hbox; have m_ := Aside0.mk (below_step (by repeat (first | (with_reducible first | exact HB.out | apply below_alloc | apply pw_below_drewN | apply below_drew1 | refine below_set ?_ G1.out) | exact HB.out)) hb); have n1_ := Aside0.mk (blk_below (g := g1) (o := .cells #[.int .i64 0, .int .i64 0, .int .i64 0] 40 (0, 0)) (by (with_reducible repeat (first | refine blk_drewN ?_ _ | refine blk_drew ?_ | refine blk_alloc ?_ _)); exact B1.out) hb); have n2_ := Aside0.mk (blk_below (g := g2) (o := .cells #[.int .i64 o0, .int .i64 o1, .int .i64 o2] 40 (0, 0)) (by (with_reducible repeat (first | refine blk_drewN ?_ _ | refine blk_drew ?_ | refine blk_alloc ?_ _)); exact B2.out) hb); clear HB B1 B2; have HB := m_; have B1 := n1_; have B2 := n2_; clear m_ n1_ n2_; clear hb; have B3 := p_; clear p_ hbox hg)
    | ((with_reducible refine gate_builtin (b := .copy) (xs := #[.tmp 59, .tmp 60]) rfl ?_); refine wpList_copy_splice rfl (.tmp 59) (.tmp 60) 36 36 rfl 5 Try.underlying36 (by kernel_rfl) (some ⟨g3, 0, none⟩) (some ad) 13 13 17 c0 rfl rfl g3 0 (List.replicate 13 (Value.int .u8 0)) 65 B3.out [.int .u8 y0, .int .u8 y1, .int .u8 y2, .int .u8 y3, .int .u8 y4, .int .u8 y5, .int .u8 y6, .int .u8 y7, .int .u8 y8, .int .u8 y9, .int .u8 y10, .int .u8 y11, .int .u8 y12] rfl (fun _ => ⟨rfl, ad, rfl, HCE.out _ (by repeat (first | (with_reducible first | exact HB.out | apply below_alloc | apply pw_below_drewN | apply below_drew1 | refine below_set ?_ G1.out) | exact HB.out))⟩) (by simp) (by simp [Value.oneCell']) g3 w7 (Below.refl _ _) (Nat.le_refl _) ?_; intro w8 hg7 hb7; have n1_ : Aside0 (w8.heap[g1]? = some (.cells #[.int .i64 0, .int .i64 0, .int .i64 0] 40 (0, 0))) := ⟨(hb7.block g1 L13.out).trans B1.out⟩; have n2_ : Aside0 (w8.heap[g2]? = some (.cells #[.int .i64 o0, .int .i64 o1, .int .i64 o2] 40 (0, 0))) := ⟨(hb7.block g2 L23.out).trans B2.out⟩; have n3_ : Aside0 (w8.heap[g3]? = some (.cells ([.int .u8 y0, .int .u8 y1, .int .u8 y2, .int .u8 y3, .int .u8 y4, .int .u8 y5, .int .u8 y6, .int .u8 y7, .int .u8 y8, .int .u8 y9, .int .u8 y10, .int .u8 y11, .int .u8 y12] : List Value).toArray 65 (0, 0))) := ⟨hg7.out⟩; have n4_ : Aside0 (Below w.heap.size w w8) := ⟨HB.out.trans (hb7.mono G3.out)⟩; clear B1 B2 B3 HB hb7 hg7; have B1 := n1_; have B2 := n2_; have B4 := n3_; have HB := n4_; clear n1_ n2_ n3_ n4_))
  have t0 : w8.cell? ⟨g2, 0, none⟩ = some (.int .i64 o0) := (blk_cell B2.out 0).trans rfl
  have t1 : w8.cell? ⟨g2, 1, none⟩ = some (.int .i64 o1) := (blk_cell B2.out 1).trans rfl
  have t2 : w8.cell? ⟨g2, 2, none⟩ = some (.int .i64 o2) := (blk_cell B2.out 2).trans rfl
  have b0 : w8.cell? ⟨g3, 0, none⟩ = some (.int .u8 y0) := (blk_cell B4.out 0).trans rfl
  have b1 : w8.cell? ⟨g3, 1, none⟩ = some (.int .u8 y1) := (blk_cell B4.out 1).trans rfl
  have b2 : w8.cell? ⟨g3, 2, none⟩ = some (.int .u8 y2) := (blk_cell B4.out 2).trans rfl
  have b3 : w8.cell? ⟨g3, 3, none⟩ = some (.int .u8 y3) := (blk_cell B4.out 3).trans rfl
  have b4 : w8.cell? ⟨g3, 4, none⟩ = some (.int .u8 y4) := (blk_cell B4.out 4).trans rfl
  have b5 : w8.cell? ⟨g3, 5, none⟩ = some (.int .u8 y5) := (blk_cell B4.out 5).trans rfl
  have b6 : w8.cell? ⟨g3, 6, none⟩ = some (.int .u8 y6) := (blk_cell B4.out 6).trans rfl
  have b7 : w8.cell? ⟨g3, 7, none⟩ = some (.int .u8 y7) := (blk_cell B4.out 7).trans rfl
  have b8 : w8.cell? ⟨g3, 8, none⟩ = some (.int .u8 y8) := (blk_cell B4.out 8).trans rfl
  have b9 : w8.cell? ⟨g3, 9, none⟩ = some (.int .u8 y9) := (blk_cell B4.out 9).trans rfl
  have b10 : w8.cell? ⟨g3, 10, none⟩ = some (.int .u8 y10) := (blk_cell B4.out 10).trans rfl
  have b11 : w8.cell? ⟨g3, 11, none⟩ = some (.int .u8 y11) := (blk_cell B4.out 11).trans rfl
  have b12 : w8.cell? ⟨g3, 12, none⟩ = some (.int .u8 y12) := (blk_cell B4.out 12).trans rfl
  go_region_law (first
    | (refine goes_ (f := 30) Try.func30 (by kernel_rfl) rfl #[.agg #[.int .i64 o0, .int .i64 o1, .int .i64 o2]] (by rfl) rfl rfl (by simp only [List.map_toArray, List.map_cons, List.map_nil]; rfl) ?_; (with_reducible refine (oob_Right.calls o0 o1 o2 false _ HRT.out).mono ?_); rintro e wa ⟨rfl, hb⟩; refine ⟨_, rfl, ?_⟩; clear t0 t1 t2 b0 b1 b2 b3 b4 b5 b6 b7 b8 b9 b10 b11 b12; have m_ := Aside0.mk (below_step (by repeat (first | (with_reducible first | exact HB.out | apply below_alloc | apply pw_below_drewN | apply below_drew1 | refine below_set ?_ G1.out) | exact HB.out)) hb); have n1_ := Aside0.mk (blk_below (g := g1) (o := .cells #[.int .i64 0, .int .i64 0, .int .i64 0] 40 (0, 0)) (by (with_reducible repeat (first | refine blk_drewN ?_ _ | refine blk_drew ?_ | refine blk_alloc ?_ _)); exact B1.out) hb); have n2_ := Aside0.mk (blk_below (g := g2) (o := .cells #[.int .i64 o0, .int .i64 o1, .int .i64 o2] 40 (0, 0)) (by (with_reducible repeat (first | refine blk_drewN ?_ _ | refine blk_drew ?_ | refine blk_alloc ?_ _)); exact B2.out) hb); have n4_ := Aside0.mk (blk_below (g := g3) (o := .cells ([.int .u8 y0, .int .u8 y1, .int .u8 y2, .int .u8 y3, .int .u8 y4, .int .u8 y5, .int .u8 y6, .int .u8 y7, .int .u8 y8, .int .u8 y9, .int .u8 y10, .int .u8 y11, .int .u8 y12] : List Value).toArray 65 (0, 0)) (by (with_reducible repeat (first | refine blk_drewN ?_ _ | refine blk_drew ?_ | refine blk_alloc ?_ _)); exact B4.out) hb); clear HB B1 B2 B4; have HB := m_; have B1 := n1_; have B2 := n2_; have B4 := n4_; clear m_ n1_ n2_ n4_; clear hb; have t0 : wa.cell? ⟨g2, 0, none⟩ = some (.int .i64 o0) := (blk_cell B2.out 0).trans rfl; have t1 : wa.cell? ⟨g2, 1, none⟩ = some (.int .i64 o1) := (blk_cell B2.out 1).trans rfl; have t2 : wa.cell? ⟨g2, 2, none⟩ = some (.int .i64 o2) := (blk_cell B2.out 2).trans rfl; have b0 : wa.cell? ⟨g3, 0, none⟩ = some (.int .u8 y0) := (blk_cell B4.out 0).trans rfl; have b1 : wa.cell? ⟨g3, 1, none⟩ = some (.int .u8 y1) := (blk_cell B4.out 1).trans rfl; have b2 : wa.cell? ⟨g3, 2, none⟩ = some (.int .u8 y2) := (blk_cell B4.out 2).trans rfl; have b3 : wa.cell? ⟨g3, 3, none⟩ = some (.int .u8 y3) := (blk_cell B4.out 3).trans rfl; have b4 : wa.cell? ⟨g3, 4, none⟩ = some (.int .u8 y4) := (blk_cell B4.out 4).trans rfl; have b5 : wa.cell? ⟨g3, 5, none⟩ = some (.int .u8 y5) := (blk_cell B4.out 5).trans rfl; have b6 : wa.cell? ⟨g3, 6, none⟩ = some (.int .u8 y6) := (blk_cell B4.out 6).trans rfl; have b7 : wa.cell? ⟨g3, 7, none⟩ = some (.int .u8 y7) := (blk_cell B4.out 7).trans rfl; have b8 : wa.cell? ⟨g3, 8, none⟩ = some (.int .u8 y8) := (blk_cell B4.out 8).trans rfl; have b9 : wa.cell? ⟨g3, 9, none⟩ = some (.int .u8 y9) := (blk_cell B4.out 9).trans rfl; have b10 : wa.cell? ⟨g3, 10, none⟩ = some (.int .u8 y10) := (blk_cell B4.out 10).trans rfl; have b11 : wa.cell? ⟨g3, 11, none⟩ = some (.int .u8 y11) := (blk_cell B4.out 11).trans rfl; have b12 : wa.cell? ⟨g3, 12, none⟩ = some (.int .u8 y12) := (blk_cell B4.out 12).trans rfl))
  all_goals
    have z0 : wa.cell? ⟨g1, 0, none⟩ = some (.int .i64 0) := (blk_cell B1.out 0).trans rfl
    have zf0 := blk_frozen B1.out 0
    have z1 : wa.cell? ⟨g1, 1, none⟩ = some (.int .i64 0) := (blk_cell B1.out 1).trans rfl
    have zf1 := blk_frozen B1.out 1
    have z2 : wa.cell? ⟨g1, 2, none⟩ = some (.int .i64 0) := (blk_cell B1.out 2).trans rfl
    have zf2 := blk_frozen B1.out 2
    go_wp2
    refine bodyPost_ret (results_ct rfl _ _ g1 40 #[.int .i64 0, .int .i64 0, .int .i64 0] (0, 0) _ rfl (by (with_reducible repeat (first | refine blk_drewN ?_ _ | refine blk_drew ?_ | refine blk_alloc ?_ _)); refine blk_put (cs := #[.int .i64 0, .int .i64 0, .int .i64 0]) ?_ 2 _ rfl; (with_reducible repeat (first | refine blk_drewN ?_ _ | refine blk_drew ?_ | refine blk_alloc ?_ _)); refine blk_put (cs := #[.int .i64 0, .int .i64 0, .int .i64 0]) ?_ 1 _ rfl; (with_reducible repeat (first | refine blk_drewN ?_ _ | refine blk_drew ?_ | refine blk_alloc ?_ _)); refine blk_put (cs := #[.int .i64 0, .int .i64 0, .int .i64 0]) ?_ 0 _ rfl; (with_reducible repeat (first | refine blk_drewN ?_ _ | refine blk_drew ?_ | refine blk_alloc ?_ _)); exact B1.out) Try.underlying40 rfl (by kernel_rfl)) rfl ?_
    exact ⟨rfl, by repeat (first | (with_reducible first | exact HB.out | apply below_alloc | apply pw_below_drewN | apply below_drew1 | refine below_set ?_ G1.out) | exact HB.out)⟩
set_option maxHeartbeats 2000000 in
set_option maxRecDepth 100000 in
theorem oob_unpack_c (k : Nat) (ad : Addr) (c0 : Nat) (l0 : List Int) (A1 : Option Addr) (c1 : Nat) (l1 : List Int) (lba e1 low e2 high e3 o0 o1 o2 : Int) (y0 y1 y2 y3 y4 y5 y6 y7 y8 y9 y10 y11 y12 : Int) (w : World) (hr0 : Kd.C (Kd.int .u8) w (some ad) 17 l0) (hc0 : 17 ≤ c0) (hr1 : Kd.C (Kd.int .u8) w A1 16 l1) (hc1 : 16 ≤ c1)
    (hl0 : l0.length = 17) (hl1 : l1.length = 16) (hY : l0.take 13 = [y0, y1, y2, y3, y4, y5, y6, y7, y8, y9, y10, y11, y12])
    (hT1 : wire_TakeFixed.f (l0.drop 1) = some (lba, e1)) (hT2 : wire_TakeFixed.f (l0.drop 5) = some (low, e2)) (hT3 : wire_TakeFixed.f (l0.drop 9) = some (high, e3)) (hh : high ≤ 262144) (E0 : wrap64 y0 = o0) (E1 : wrap64 lba = o1) (E2 : Go.bits .or .i64 (wrap64 (wrap64 high * 4294967296)) (wrap64 low) = o2) (x0 x1 x2 x3 x4 x5 x6 x7 x8 x9 x10 x11 x12 : Int) (hR : oob_Right.f o0 o1 o2 = some true) (hL : ∀ w, Calls Try.prog 31 #[.agg #[.int .i64 o0, .int .i64 o1, .int .i64 o2]] w fun e w' => e = .returned (.agg #[.int .u8 x0, .int .u8 x1, .int .u8 x2, .int .u8 x3, .int .u8 x4, .int .u8 x5, .int .u8 x6, .int .u8 x7, .int .u8 x8, .int .u8 x9, .int .u8 x10, .int .u8 x11, .int .u8 x12]) ∧ Below w.heap.size w w') (hne : [y0, y1, y2, y3, y4, y5, y6, y7, y8, y9, y10, y11, y12] ≠ [x0, x1, x2, x3, x4, x5, x6, x7, x8, x9, x10, x11, x12]) :
    Calls Try.prog 18 #[.slice (some ad) 17 c0, .slice A1 16 c1] w fun e w' => e = .returned (.tuple #[.agg #[.int .i64 0, .int .i64 0, .int .i64 0], .int .i64 3]) ∧ Below w.heap.size w w' := by
  have HR0 := Aside0.mk hr0
  have HC0 := Aside0.mk hc0
  have HR1 := Aside0.mk hr1
  have HC1 := Aside0.mk hc1
  have HLN := Aside0.mk hl0
  have HLM := Aside0.mk hl1
  have T1 := Aside0.mk hT1
  have T2 := Aside0.mk hT2
  have T3 := Aside0.mk hT3
  have HCE : Aside0 (∀ W, Below w.heap.size w W → ∀ j v, ([.int .u8 y0, .int .u8 y1, .int .u8 y2, .int .u8 y3, .int .u8 y4, .int .u8 y5, .int .u8 y6, .int .u8 y7, .int .u8 y8, .int .u8 y9, .int .u8 y10, .int .u8 y11, .int .u8 y12] : List Value)[j]? = some v → W.cell? (ad.add j) = some v) := ⟨fun W hW => by have := cells_of (Kd.C_below hr0 hW) 13 (by decide); rw [hY] at this; exact this⟩
  have i1 : ¬ c0 = 1 := by omega
  have i5 : ¬ c0 = 5 := by omega
  have i9 : ¬ c0 = 9 := by omega
  have i13 : ¬ c0 = 13 := by omega
  have j13 : ¬ (c0 : Int) < 13 := by omega
  have hhb : decide (262144 < high) = false := decide_eq_false (by omega)
  clear hr0 hc0 hr1 hc1 hl0 hl1 hT1 hT2 hT3 hh
  have HRT := Aside0.mk hR
  have HLD := Aside0.mk hL
  clear hR hL
  have EQ : ∀ W : World, (Op.equalIn 10000 65 (.agg #[.int .u8 y0, .int .u8 y1, .int .u8 y2, .int .u8 y3, .int .u8 y4, .int .u8 y5, .int .u8 y6, .int .u8 y7, .int .u8 y8, .int .u8 y9, .int .u8 y10, .int .u8 y11, .int .u8 y12]) (.agg #[.int .u8 x0, .int .u8 x1, .int .u8 x2, .int .u8 x3, .int .u8 x4, .int .u8 x5, .int .u8 x6, .int .u8 x7, .int .u8 x8, .int .u8 x9, .int .u8 x10, .int .u8 x11, .int .u8 x12])).run Try.prog W = .ok false W := fun W => by
    have e := eq_arr W 9998 65 5 13 Try.underlying65 Try.underlying5 (fun w => Try.sizeOf5 w) [y0, y1, y2, y3, y4, y5, y6, y7, y8, y9, y10, y11, y12] [x0, x1, x2, x3, x4, x5, x6, x7, x8, x9, x10, x11, x12] rfl rfl
    rw [beq_eq_false_iff_ne.mpr hne] at e
    exact e
  clear hne
  have hu65 := Try.underlying65
  have hu40 := Try.underlying40
  have HB := Aside0.mk (Below.refl w.heap.size w)
  go_enter Try.func18, Try.ntmps18
  go_wp2_with (first
    | ((with_reducible refine gate_dst (N := 4) rfl ?_); refine box_event ?hg (N := 4) ?hd (cs := #[.int .i64 0, .int .i64 0, .int .i64 0]) (t := 40) ?hr ?_; (case hd => rfl); (case hg => rfl); (case hr => first | (go_simp; done) | (go_simp; rfl)); intro g1 hg w1 hbox hb; have G1 := Aside0.mk (by rw [hg]; exact (below_size (by repeat (first | (with_reducible first | exact HB.out | apply below_alloc | apply pw_below_drewN | apply below_drew1) | exact HB.out))) : w.heap.size ≤ g1); have p_ := Aside0.mk hbox; have m_ := Aside0.mk (below_step (by repeat (first | (with_reducible first | exact HB.out | apply below_alloc | apply pw_below_drewN | apply below_drew1) | exact HB.out)) hb); clear HB; have HB := m_; clear m_; clear hb; have B1 := p_; clear p_ hbox hg)
    | ((with_reducible refine gate_dst (N := 28) rfl ?_); refine goesL_ (some 28) rfl rfl Try.func29 (by kernel_rfl) rfl #[.slice (some ⟨ad.block, ad.off + 1, none⟩) 16 (c0 - 1)] rfl (by (try simp only [List.map_toArray, List.map_cons, List.map_nil]); first | done | rfl) ?_; (with_reducible refine (unpack_take_len 1 16 ad c0 l0 lba e1 _ HLN.out (by decide) rfl ?side1 HC0.out T1.out).mono ?_); (case side1 => exact (Kd.C_below HR0.out (by repeat (first | (with_reducible first | exact HB.out | apply below_alloc | apply pw_below_drewN | apply below_drew1 | refine below_set ?_ G1.out) | exact HB.out)))); rintro e w2 ⟨rfl, hd_⟩; have hb := drawn_below hd_; clear hd_; refine ⟨_, rfl, ?_⟩; have m_ := Aside0.mk (below_step (by repeat (first | (with_reducible first | exact HB.out | apply below_alloc | apply pw_below_drewN | apply below_drew1 | refine below_set ?_ G1.out) | exact HB.out)) hb); have n1_ := Aside0.mk (blk_below (g := g1) (o := .cells #[.int .i64 0, .int .i64 0, .int .i64 0] 40 (0, 0)) (by (with_reducible repeat (first | refine blk_drewN ?_ _ | refine blk_drew ?_ | refine blk_alloc ?_ _)); exact B1.out) hb); clear HB B1; have HB := m_; have B1 := n1_; clear m_ n1_; clear hb)
    | ((with_reducible refine gate_dst (N := 34) rfl ?_); refine goesL_ (some 34) rfl rfl Try.func29 (by kernel_rfl) rfl #[.slice (some ⟨ad.block, ad.off + 5, none⟩) 12 (c0 - 5)] rfl (by (try simp only [List.map_toArray, List.map_cons, List.map_nil]); first | done | rfl) ?_; (with_reducible refine (unpack_take_len 5 12 ad c0 l0 low e2 _ HLN.out (by decide) rfl ?side1 HC0.out T2.out).mono ?_); (case side1 => exact (Kd.C_below HR0.out (by repeat (first | (with_reducible first | exact HB.out | apply below_alloc | apply pw_below_drewN | apply below_drew1 | refine below_set ?_ G1.out) | exact HB.out)))); rintro e w3 ⟨rfl, hd_⟩; have hb := drawn_below hd_; clear hd_; refine ⟨_, rfl, ?_⟩; have m_ := Aside0.mk (below_step (by repeat (first | (with_reducible first | exact HB.out | apply below_alloc | apply pw_below_drewN | apply below_drew1 | refine below_set ?_ G1.out) | exact HB.out)) hb); have n1_ := Aside0.mk (blk_below (g := g1) (o := .cells #[.int .i64 0, .int .i64 0, .int .i64 0] 40 (0, 0)) (by (with_reducible repeat (first | refine blk_drewN ?_ _ | refine blk_drew ?_ | refine blk_alloc ?_ _)); exact B1.out) hb); clear HB B1; have HB := m_; have B1 := n1_; clear m_ n1_; clear hb)
    | ((with_reducible refine gate_dst (N := 40) rfl ?_); refine goesL_ (some 40) rfl rfl Try.func29 (by kernel_rfl) rfl #[.slice (some ⟨ad.block, ad.off + 9, none⟩) 8 (c0 - 9)] rfl (by (try simp only [List.map_toArray, List.map_cons, List.map_nil]); first | done | rfl) ?_; (with_reducible refine (unpack_take_len 9 8 ad c0 l0 high e3 _ HLN.out (by decide) rfl ?side1 HC0.out T3.out).mono ?_); (case side1 => exact (Kd.C_below HR0.out (by repeat (first | (with_reducible first | exact HB.out | apply below_alloc | apply pw_below_drewN | apply below_drew1 | refine below_set ?_ G1.out) | exact HB.out)))); rintro e w4 ⟨rfl, hd_⟩; have hb := drawn_below hd_; clear hd_; refine ⟨_, rfl, ?_⟩; have m_ := Aside0.mk (below_step (by repeat (first | (with_reducible first | exact HB.out | apply below_alloc | apply pw_below_drewN | apply below_drew1 | refine below_set ?_ G1.out) | exact HB.out)) hb); have n1_ := Aside0.mk (blk_below (g := g1) (o := .cells #[.int .i64 0, .int .i64 0, .int .i64 0] 40 (0, 0)) (by (with_reducible repeat (first | refine blk_drewN ?_ _ | refine blk_drew ?_ | refine blk_alloc ?_ _)); exact B1.out) hb); clear HB B1; have HB := m_; have B1 := n1_; clear m_ n1_; clear hb; have hy0 : w4.cell? ad = some (.int .u8 y0) := HCE.out _ HB.out 0 _ rfl)
    | ((with_reducible refine gate_dst (N := 12) rfl ?_); refine box_event ?hg (N := 12) ?hd (cs := #[.int .i64 0, .int .i64 0, .int .i64 0]) (t := 40) ?hr ?_; (case hd => rfl); (case hg => rfl); (case hr => first | (go_simp; done) | (go_simp; rfl)); intro g2 hg w5 hbox hb; have G2 := Aside0.mk (by rw [hg]; exact (below_size (by repeat (first | (with_reducible first | exact HB.out | apply below_alloc | apply pw_below_drewN | apply below_drew1 | refine below_set ?_ G1.out) | exact HB.out))) : w.heap.size ≤ g2); have L12 := Aside0.mk (by rw [hg]; exact blk_lt (by (with_reducible repeat (first | refine blk_drewN ?_ _ | refine blk_drew ?_ | refine blk_alloc ?_ _)); exact B1.out) : g1 < g2); have p_ := Aside0.mk hbox; have m_ := Aside0.mk (below_step (by repeat (first | (with_reducible first | exact HB.out | apply below_alloc | apply pw_below_drewN | apply below_drew1 | refine below_set ?_ G1.out) | exact HB.out)) hb); have n1_ := Aside0.mk (blk_below (g := g1) (o := .cells #[.int .i64 0, .int .i64 0, .int .i64 0] 40 (0, 0)) (by (with_reducible repeat (first | refine blk_drewN ?_ _ | refine blk_drew ?_ | refine blk_alloc ?_ _)); exact B1.out) hb); clear HB B1; have HB := m_; have B1 := n1_; clear m_ n1_; clear hb; have B2 := p_; clear p_ hbox hg; have s0 : w5.cell? ⟨g2, 0, none⟩ = some (.int .i64 0) := (blk_cell B2.out 0).trans rfl; have sf0 := blk_frozen B2.out 0; have s1 : w5.cell? ⟨g2, 1, none⟩ = some (.int .i64 0) := (blk_cell B2.out 1).trans rfl; have sf1 := blk_frozen B2.out 1; have s2 : w5.cell? ⟨g2, 2, none⟩ = some (.int .i64 0) := (blk_cell B2.out 2).trans rfl; have sf2 := blk_frozen B2.out 2)
    | ((with_reducible refine gate_dst (N := 13) rfl ?_); have ne_ : g1 ≠ g2 := (by have := L12.out; omega); have q1_ := Aside0.mk (blk_far (p := ⟨g2, 2, none⟩) (blk_far (p := ⟨g2, 1, none⟩) (blk_far (p := ⟨g2, 0, none⟩) B1.out ne_ (.int .i64 o0)) ne_ (.int .i64 o1)) ne_ (.int .i64 o2)); have q2_ := Aside0.mk (blk_put (cs' := #[.int .i64 o0, .int .i64 o1, .int .i64 o2]) (blk_put (cs' := #[.int .i64 o0, .int .i64 o1, .int .i64 0]) (blk_put (cs' := #[.int .i64 o0, .int .i64 0, .int .i64 0]) B2.out 0 (.int .i64 o0) rfl) 1 (.int .i64 o1) rfl) 2 (.int .i64 o2) rfl); have q3_ : Aside0 (Below w.heap.size w (((w5.setCell ⟨g2, 0, none⟩ (.int .i64 o0)).setCell ⟨g2, 1, none⟩ (.int .i64 o1)).setCell ⟨g2, 2, none⟩ (.int .i64 o2))) := Aside0.mk (below_set (below_set (below_set HB.out G2.out) G2.out) G2.out); clear B1 B2 HB ne_ s0 sf0 s1 sf1 s2 sf2; generalize (((w5.setCell ⟨g2, 0, none⟩ (.int .i64 o0)).setCell ⟨g2, 1, none⟩ (.int .i64 o1)).setCell ⟨g2, 2, none⟩ (.int .i64 o2)) = w6 at q1_ q2_ q3_ ⊢; have B1 := q1_; have B2 := q2_; have HB := q3_; clear q1_ q2_ q3_; refine box_event ?hg (N := 13) ?hd (cs := (List.replicate 13 (Value.int .u8 0)).toArray) (t := 65) ?hr ?_; (case hd => rfl); (case hg => rfl); (case hr => first | (go_simp; done) | (go_simp; rfl)); intro g3 hg w7 hbox hb; have G3 := Aside0.mk (by rw [hg]; exact (below_size (by repeat (first | (with_reducible first | exact HB.out | apply below_alloc | apply pw_below_drewN | apply below_drew1 | refine below_set ?_ G1.out) | exact HB.out))) : w.heap.size ≤ g3); have L13 := Aside0.mk (by rw [hg]; exact blk_lt (by (with_reducible repeat (first | refine blk_drewN ?_ _ | refine blk_drew ?_ | refine blk_alloc ?_ _)); exact B1.out) : g1 < g3); have L23 := Aside0.mk (by rw [hg]; exact blk_lt (by (with_reducible repeat (first | refine blk_drewN ?_ _ | refine blk_drew ?_ | refine blk_alloc ?_ _)); exact B2.out) : g2 < g3); have p_ := Aside0.mk hbox; have m_ := Aside0.mk (below_step (by repeat (first | (with_reducible first | exact HB.out | apply below_alloc | apply pw_below_drewN | apply below_drew1 | refine below_set ?_ G1.out) | exact HB.out)) hb); have n1_ := Aside0.mk (blk_below (g := g1) (o := .cells #[.int .i64 0, .int .i64 0, .int .i64 0] 40 (0, 0)) (by (with_reducible repeat (first | refine blk_drewN ?_ _ | refine blk_drew ?_ | refine blk_alloc ?_ _)); exact B1.out) hb); have n2_ := Aside0.mk (blk_below (g := g2) (o := .cells #[.int .i64 o0, .int .i64 o1, .int .i64 o2] 40 (0, 0)) (by (with_reducible repeat (first | refine blk_drewN ?_ _ | refine blk_drew ?_ | refine blk_alloc ?_ _)); exact B2.out) hb); clear HB B1 B2; have HB := m_; have B1 := n1_; have B2 := n2_; clear m_ n1_ n2_; clear hb; have B3 := p_; clear p_ hbox hg)
    | ((with_reducible refine gate_builtin (b := .copy) (xs := #[.tmp 59, .tmp 60]) rfl ?_); refine wpList_copy_splice rfl (.tmp 59) (.tmp 60) 36 36 rfl 5 Try.underlying36 (by kernel_rfl) (some ⟨g3, 0, none⟩) (some ad) 13 13 17 c0 rfl rfl g3 0 (List.replicate 13 (Value.int .u8 0)) 65 B3.out [.int .u8 y0, .int .u8 y1, .int .u8 y2, .int .u8 y3, .int .u8 y4, .int .u8 y5, .int .u8 y6, .int .u8 y7, .int .u8 y8, .int .u8 y9, .int .u8 y10, .int .u8 y11, .int .u8 y12] rfl (fun _ => ⟨rfl, ad, rfl, HCE.out _ (by repeat (first | (with_reducible first | exact HB.out | apply below_alloc | apply pw_below_drewN | apply below_drew1 | refine below_set ?_ G1.out) | exact HB.out))⟩) (by simp) (by simp [Value.oneCell']) g3 w7 (Below.refl _ _) (Nat.le_refl _) ?_; intro w8 hg7 hb7; have n1_ : Aside0 (w8.heap[g1]? = some (.cells #[.int .i64 0, .int .i64 0, .int .i64 0] 40 (0, 0))) := ⟨(hb7.block g1 L13.out).trans B1.out⟩; have n2_ : Aside0 (w8.heap[g2]? = some (.cells #[.int .i64 o0, .int .i64 o1, .int .i64 o2] 40 (0, 0))) := ⟨(hb7.block g2 L23.out).trans B2.out⟩; have n3_ : Aside0 (w8.heap[g3]? = some (.cells ([.int .u8 y0, .int .u8 y1, .int .u8 y2, .int .u8 y3, .int .u8 y4, .int .u8 y5, .int .u8 y6, .int .u8 y7, .int .u8 y8, .int .u8 y9, .int .u8 y10, .int .u8 y11, .int .u8 y12] : List Value).toArray 65 (0, 0))) := ⟨hg7.out⟩; have n4_ : Aside0 (Below w.heap.size w w8) := ⟨HB.out.trans (hb7.mono G3.out)⟩; clear B1 B2 B3 HB hb7 hg7; have B1 := n1_; have B2 := n2_; have B4 := n3_; have HB := n4_; clear n1_ n2_ n3_ n4_))
  have t0 : w8.cell? ⟨g2, 0, none⟩ = some (.int .i64 o0) := (blk_cell B2.out 0).trans rfl
  have t1 : w8.cell? ⟨g2, 1, none⟩ = some (.int .i64 o1) := (blk_cell B2.out 1).trans rfl
  have t2 : w8.cell? ⟨g2, 2, none⟩ = some (.int .i64 o2) := (blk_cell B2.out 2).trans rfl
  have b0 : w8.cell? ⟨g3, 0, none⟩ = some (.int .u8 y0) := (blk_cell B4.out 0).trans rfl
  have b1 : w8.cell? ⟨g3, 1, none⟩ = some (.int .u8 y1) := (blk_cell B4.out 1).trans rfl
  have b2 : w8.cell? ⟨g3, 2, none⟩ = some (.int .u8 y2) := (blk_cell B4.out 2).trans rfl
  have b3 : w8.cell? ⟨g3, 3, none⟩ = some (.int .u8 y3) := (blk_cell B4.out 3).trans rfl
  have b4 : w8.cell? ⟨g3, 4, none⟩ = some (.int .u8 y4) := (blk_cell B4.out 4).trans rfl
  have b5 : w8.cell? ⟨g3, 5, none⟩ = some (.int .u8 y5) := (blk_cell B4.out 5).trans rfl
  have b6 : w8.cell? ⟨g3, 6, none⟩ = some (.int .u8 y6) := (blk_cell B4.out 6).trans rfl
  have b7 : w8.cell? ⟨g3, 7, none⟩ = some (.int .u8 y7) := (blk_cell B4.out 7).trans rfl
  have b8 : w8.cell? ⟨g3, 8, none⟩ = some (.int .u8 y8) := (blk_cell B4.out 8).trans rfl
  have b9 : w8.cell? ⟨g3, 9, none⟩ = some (.int .u8 y9) := (blk_cell B4.out 9).trans rfl
  have b10 : w8.cell? ⟨g3, 10, none⟩ = some (.int .u8 y10) := (blk_cell B4.out 10).trans rfl
  have b11 : w8.cell? ⟨g3, 11, none⟩ = some (.int .u8 y11) := (blk_cell B4.out 11).trans rfl
  have b12 : w8.cell? ⟨g3, 12, none⟩ = some (.int .u8 y12) := (blk_cell B4.out 12).trans rfl
  go_region_law (first
    | (refine goes_ (f := 30) Try.func30 (by kernel_rfl) rfl #[.agg #[.int .i64 o0, .int .i64 o1, .int .i64 o2]] (by rfl) rfl rfl (by simp only [List.map_toArray, List.map_cons, List.map_nil]; rfl) ?_; (with_reducible refine (oob_Right.calls o0 o1 o2 true _ HRT.out).mono ?_); rintro e wa ⟨rfl, hb⟩; refine ⟨_, rfl, ?_⟩; clear t0 t1 t2 b0 b1 b2 b3 b4 b5 b6 b7 b8 b9 b10 b11 b12; have m_ := Aside0.mk (below_step (by repeat (first | (with_reducible first | exact HB.out | apply below_alloc | apply pw_below_drewN | apply below_drew1 | refine below_set ?_ G1.out) | exact HB.out)) hb); have n1_ := Aside0.mk (blk_below (g := g1) (o := .cells #[.int .i64 0, .int .i64 0, .int .i64 0] 40 (0, 0)) (by (with_reducible repeat (first | refine blk_drewN ?_ _ | refine blk_drew ?_ | refine blk_alloc ?_ _)); exact B1.out) hb); have n2_ := Aside0.mk (blk_below (g := g2) (o := .cells #[.int .i64 o0, .int .i64 o1, .int .i64 o2] 40 (0, 0)) (by (with_reducible repeat (first | refine blk_drewN ?_ _ | refine blk_drew ?_ | refine blk_alloc ?_ _)); exact B2.out) hb); have n4_ := Aside0.mk (blk_below (g := g3) (o := .cells ([.int .u8 y0, .int .u8 y1, .int .u8 y2, .int .u8 y3, .int .u8 y4, .int .u8 y5, .int .u8 y6, .int .u8 y7, .int .u8 y8, .int .u8 y9, .int .u8 y10, .int .u8 y11, .int .u8 y12] : List Value).toArray 65 (0, 0)) (by (with_reducible repeat (first | refine blk_drewN ?_ _ | refine blk_drew ?_ | refine blk_alloc ?_ _)); exact B4.out) hb); clear HB B1 B2 B4; have HB := m_; have B1 := n1_; have B2 := n2_; have B4 := n4_; clear m_ n1_ n2_ n4_; clear hb; have t0 : wa.cell? ⟨g2, 0, none⟩ = some (.int .i64 o0) := (blk_cell B2.out 0).trans rfl; have t1 : wa.cell? ⟨g2, 1, none⟩ = some (.int .i64 o1) := (blk_cell B2.out 1).trans rfl; have t2 : wa.cell? ⟨g2, 2, none⟩ = some (.int .i64 o2) := (blk_cell B2.out 2).trans rfl; have b0 : wa.cell? ⟨g3, 0, none⟩ = some (.int .u8 y0) := (blk_cell B4.out 0).trans rfl; have b1 : wa.cell? ⟨g3, 1, none⟩ = some (.int .u8 y1) := (blk_cell B4.out 1).trans rfl; have b2 : wa.cell? ⟨g3, 2, none⟩ = some (.int .u8 y2) := (blk_cell B4.out 2).trans rfl; have b3 : wa.cell? ⟨g3, 3, none⟩ = some (.int .u8 y3) := (blk_cell B4.out 3).trans rfl; have b4 : wa.cell? ⟨g3, 4, none⟩ = some (.int .u8 y4) := (blk_cell B4.out 4).trans rfl; have b5 : wa.cell? ⟨g3, 5, none⟩ = some (.int .u8 y5) := (blk_cell B4.out 5).trans rfl; have b6 : wa.cell? ⟨g3, 6, none⟩ = some (.int .u8 y6) := (blk_cell B4.out 6).trans rfl; have b7 : wa.cell? ⟨g3, 7, none⟩ = some (.int .u8 y7) := (blk_cell B4.out 7).trans rfl; have b8 : wa.cell? ⟨g3, 8, none⟩ = some (.int .u8 y8) := (blk_cell B4.out 8).trans rfl; have b9 : wa.cell? ⟨g3, 9, none⟩ = some (.int .u8 y9) := (blk_cell B4.out 9).trans rfl; have b10 : wa.cell? ⟨g3, 10, none⟩ = some (.int .u8 y10) := (blk_cell B4.out 10).trans rfl; have b11 : wa.cell? ⟨g3, 11, none⟩ = some (.int .u8 y11) := (blk_cell B4.out 11).trans rfl; have b12 : wa.cell? ⟨g3, 12, none⟩ = some (.int .u8 y12) := (blk_cell B4.out 12).trans rfl)
    | (refine goes_ (f := 31) Try.func31 (by kernel_rfl) rfl #[.agg #[.int .i64 o0, .int .i64 o1, .int .i64 o2]] (by rfl) rfl rfl (by simp only [List.map_toArray, List.map_cons, List.map_nil]; rfl) ?_; (with_reducible refine (HLD.out _).mono ?_); rintro e wb ⟨rfl, hb⟩; refine ⟨_, rfl, ?_⟩; clear t0 t1 t2 b0 b1 b2 b3 b4 b5 b6 b7 b8 b9 b10 b11 b12; have m_ := Aside0.mk (below_step (by repeat (first | (with_reducible first | exact HB.out | apply below_alloc | apply pw_below_drewN | apply below_drew1 | refine below_set ?_ G1.out) | exact HB.out)) hb); have n1_ := Aside0.mk (blk_below (g := g1) (o := .cells #[.int .i64 0, .int .i64 0, .int .i64 0] 40 (0, 0)) (by (with_reducible repeat (first | refine blk_drewN ?_ _ | refine blk_drew ?_ | refine blk_alloc ?_ _)); exact B1.out) hb); have n2_ := Aside0.mk (blk_below (g := g2) (o := .cells #[.int .i64 o0, .int .i64 o1, .int .i64 o2] 40 (0, 0)) (by (with_reducible repeat (first | refine blk_drewN ?_ _ | refine blk_drew ?_ | refine blk_alloc ?_ _)); exact B2.out) hb); have n4_ := Aside0.mk (blk_below (g := g3) (o := .cells ([.int .u8 y0, .int .u8 y1, .int .u8 y2, .int .u8 y3, .int .u8 y4, .int .u8 y5, .int .u8 y6, .int .u8 y7, .int .u8 y8, .int .u8 y9, .int .u8 y10, .int .u8 y11, .int .u8 y12] : List Value).toArray 65 (0, 0)) (by (with_reducible repeat (first | refine blk_drewN ?_ _ | refine blk_drew ?_ | refine blk_alloc ?_ _)); exact B4.out) hb); clear HB B1 B2 B4; have HB := m_; have B1 := n1_; have B2 := n2_; have B4 := n4_; clear m_ n1_ n2_ n4_; clear hb; have t0 : wb.cell? ⟨g2, 0, none⟩ = some (.int .i64 o0) := (blk_cell B2.out 0).trans rfl; have t1 : wb.cell? ⟨g2, 1, none⟩ = some (.int .i64 o1) := (blk_cell B2.out 1).trans rfl; have t2 : wb.cell? ⟨g2, 2, none⟩ = some (.int .i64 o2) := (blk_cell B2.out 2).trans rfl; have b0 : wb.cell? ⟨g3, 0, none⟩ = some (.int .u8 y0) := (blk_cell B4.out 0).trans rfl; have b1 : wb.cell? ⟨g3, 1, none⟩ = some (.int .u8 y1) := (blk_cell B4.out 1).trans rfl; have b2 : wb.cell? ⟨g3, 2, none⟩ = some (.int .u8 y2) := (blk_cell B4.out 2).trans rfl; have b3 : wb.cell? ⟨g3, 3, none⟩ = some (.int .u8 y3) := (blk_cell B4.out 3).trans rfl; have b4 : wb.cell? ⟨g3, 4, none⟩ = some (.int .u8 y4) := (blk_cell B4.out 4).trans rfl; have b5 : wb.cell? ⟨g3, 5, none⟩ = some (.int .u8 y5) := (blk_cell B4.out 5).trans rfl; have b6 : wb.cell? ⟨g3, 6, none⟩ = some (.int .u8 y6) := (blk_cell B4.out 6).trans rfl; have b7 : wb.cell? ⟨g3, 7, none⟩ = some (.int .u8 y7) := (blk_cell B4.out 7).trans rfl; have b8 : wb.cell? ⟨g3, 8, none⟩ = some (.int .u8 y8) := (blk_cell B4.out 8).trans rfl; have b9 : wb.cell? ⟨g3, 9, none⟩ = some (.int .u8 y9) := (blk_cell B4.out 9).trans rfl; have b10 : wb.cell? ⟨g3, 10, none⟩ = some (.int .u8 y10) := (blk_cell B4.out 10).trans rfl; have b11 : wb.cell? ⟨g3, 11, none⟩ = some (.int .u8 y11) := (blk_cell B4.out 11).trans rfl; have b12 : wb.cell? ⟨g3, 12, none⟩ = some (.int .u8 y12) := (blk_cell B4.out 12).trans rfl))
  all_goals
    have z0 : wb.cell? ⟨g1, 0, none⟩ = some (.int .i64 0) := (blk_cell B1.out 0).trans rfl
    have zf0 := blk_frozen B1.out 0
    have z1 : wb.cell? ⟨g1, 1, none⟩ = some (.int .i64 0) := (blk_cell B1.out 1).trans rfl
    have zf1 := blk_frozen B1.out 1
    have z2 : wb.cell? ⟨g1, 2, none⟩ = some (.int .i64 0) := (blk_cell B1.out 2).trans rfl
    have zf2 := blk_frozen B1.out 2
    go_wp2
    refine bodyPost_ret (results_ct rfl _ _ g1 40 #[.int .i64 0, .int .i64 0, .int .i64 0] (0, 0) _ rfl (by (with_reducible repeat (first | refine blk_drewN ?_ _ | refine blk_drew ?_ | refine blk_alloc ?_ _)); refine blk_put (cs := #[.int .i64 0, .int .i64 0, .int .i64 0]) ?_ 2 _ rfl; (with_reducible repeat (first | refine blk_drewN ?_ _ | refine blk_drew ?_ | refine blk_alloc ?_ _)); refine blk_put (cs := #[.int .i64 0, .int .i64 0, .int .i64 0]) ?_ 1 _ rfl; (with_reducible repeat (first | refine blk_drewN ?_ _ | refine blk_drew ?_ | refine blk_alloc ?_ _)); refine blk_put (cs := #[.int .i64 0, .int .i64 0, .int .i64 0]) ?_ 0 _ rfl; (with_reducible repeat (first | refine blk_drewN ?_ _ | refine blk_drew ?_ | refine blk_alloc ?_ _)); exact B1.out) Try.underlying40 rfl (by kernel_rfl)) rfl ?_
    exact ⟨rfl, by repeat (first | (with_reducible first | exact HB.out | apply below_alloc | apply pw_below_drewN | apply below_drew1 | refine below_set ?_ G1.out) | exact HB.out)⟩
set_option maxHeartbeats 2000000 in
set_option maxRecDepth 100000 in
theorem oob_unpack_d (k : Nat) (ad : Addr) (c0 : Nat) (l0 : List Int) (A1 : Option Addr) (c1 : Nat) (l1 : List Int) (lba e1 low e2 high e3 o0 o1 o2 : Int) (y0 y1 y2 y3 y4 y5 y6 y7 y8 y9 y10 y11 y12 : Int) (w : World) (hr0 : Kd.C (Kd.int .u8) w (some ad) 17 l0) (hc0 : 17 ≤ c0) (hr1 : Kd.C (Kd.int .u8) w A1 16 l1) (hc1 : 16 ≤ c1)
    (hl0 : l0.length = 17) (hl1 : l1.length = 16) (hY : l0.take 13 = [y0, y1, y2, y3, y4, y5, y6, y7, y8, y9, y10, y11, y12])
    (hT1 : wire_TakeFixed.f (l0.drop 1) = some (lba, e1)) (hT2 : wire_TakeFixed.f (l0.drop 5) = some (low, e2)) (hT3 : wire_TakeFixed.f (l0.drop 9) = some (high, e3)) (hh : high ≤ 262144) (E0 : wrap64 y0 = o0) (E1 : wrap64 lba = o1) (E2 : Go.bits .or .i64 (wrap64 (wrap64 high * 4294967296)) (wrap64 low) = o2) (hR : oob_Right.f o0 o1 o2 = some true) (hL : ∀ w, Calls Try.prog 31 #[.agg #[.int .i64 o0, .int .i64 o1, .int .i64 o2]] w fun e w' => e = .returned (.agg #[.int .u8 y0, .int .u8 y1, .int .u8 y2, .int .u8 y3, .int .u8 y4, .int .u8 y5, .int .u8 y6, .int .u8 y7, .int .u8 y8, .int .u8 y9, .int .u8 y10, .int .u8 y11, .int .u8 y12]) ∧ Below w.heap.size w w') (sm e4 s1 u1 : Int) (hT4 : wire_TakeFixed.f (l0.drop 13) = some (sm, e4)) (hS : crc_Sum.f k (l0.take 13) = some s1) (hA : crc_Add.f k s1 l1 = some u1) (hne : sm ≠ u1) :
    Calls Try.prog 18 #[.slice (some ad) 17 c0, .slice A1 16 c1] w fun e w' => e = .returned (.tuple #[.agg #[.int .i64 0, .int .i64 0, .int .i64 0], .int .i64 4]) ∧ Below w.heap.size w w' := by
  have HR0 := Aside0.mk hr0
  have HC0 := Aside0.mk hc0
  have HR1 := Aside0.mk hr1
  have HC1 := Aside0.mk hc1
  have HLN := Aside0.mk hl0
  have HLM := Aside0.mk hl1
  have T1 := Aside0.mk hT1
  have T2 := Aside0.mk hT2
  have T3 := Aside0.mk hT3
  have HCE : Aside0 (∀ W, Below w.heap.size w W → ∀ j v, ([.int .u8 y0, .int .u8 y1, .int .u8 y2, .int .u8 y3, .int .u8 y4, .int .u8 y5, .int .u8 y6, .int .u8 y7, .int .u8 y8, .int .u8 y9, .int .u8 y10, .int .u8 y11, .int .u8 y12] : List Value)[j]? = some v → W.cell? (ad.add j) = some v) := ⟨fun W hW => by have := cells_of (Kd.C_below hr0 hW) 13 (by decide); rw [hY] at this; exact this⟩
  have i1 : ¬ c0 = 1 := by omega
  have i5 : ¬ c0 = 5 := by omega
  have i9 : ¬ c0 = 9 := by omega
  have i13 : ¬ c0 = 13 := by omega
  have j13 : ¬ (c0 : Int) < 13 := by omega
  have hhb : decide (262144 < high) = false := decide_eq_false (by omega)
  clear hr0 hc0 hr1 hc1 hl0 hl1 hT1 hT2 hT3 hh
  have HRT := Aside0.mk hR
  have HLD := Aside0.mk hL
  have T4 := Aside0.mk hT4
  have HS := Aside0.mk hS
  have HA := Aside0.mk hA
  clear hR hL hT4 hS hA
  have EQ : ∀ W : World, (Op.equalIn 10000 65 (.agg #[.int .u8 y0, .int .u8 y1, .int .u8 y2, .int .u8 y3, .int .u8 y4, .int .u8 y5, .int .u8 y6, .int .u8 y7, .int .u8 y8, .int .u8 y9, .int .u8 y10, .int .u8 y11, .int .u8 y12]) (.agg #[.int .u8 y0, .int .u8 y1, .int .u8 y2, .int .u8 y3, .int .u8 y4, .int .u8 y5, .int .u8 y6, .int .u8 y7, .int .u8 y8, .int .u8 y9, .int .u8 y10, .int .u8 y11, .int .u8 y12])).run Try.prog W = .ok true W := fun W => by
    have e := eq_arr W 9998 65 5 13 Try.underlying65 Try.underlying5 (fun w => Try.sizeOf5 w) [y0, y1, y2, y3, y4, y5, y6, y7, y8, y9, y10, y11, y12] [y0, y1, y2, y3, y4, y5, y6, y7, y8, y9, y10, y11, y12] rfl rfl
    rw [beq_self_eq_true] at e
    exact e
  have hn1 : (sm != u1) = true := bne_iff_ne.mpr hne
  have hn2 : (sm == u1) = false := beq_eq_false_iff_ne.mpr hne
  clear hne
  have hu65 := Try.underlying65
  have hu40 := Try.underlying40
  have HB := Aside0.mk (Below.refl w.heap.size w)
  go_enter Try.func18, Try.ntmps18
  go_wp2_with (first
    | ((with_reducible refine gate_dst (N := 4) rfl ?_); refine box_event ?hg (N := 4) ?hd (cs := #[.int .i64 0, .int .i64 0, .int .i64 0]) (t := 40) ?hr ?_; (case hd => rfl); (case hg => rfl); (case hr => first | (go_simp; done) | (go_simp; rfl)); intro g1 hg w1 hbox hb; have G1 := Aside0.mk (by rw [hg]; exact (below_size (by repeat (first | (with_reducible first | exact HB.out | apply below_alloc | apply pw_below_drewN | apply below_drew1) | exact HB.out))) : w.heap.size ≤ g1); have p_ := Aside0.mk hbox; have m_ := Aside0.mk (below_step (by repeat (first | (with_reducible first | exact HB.out | apply below_alloc | apply pw_below_drewN | apply below_drew1) | exact HB.out)) hb); clear HB; have HB := m_; clear m_; clear hb; have B1 := p_; clear p_ hbox hg)
    | ((with_reducible refine gate_dst (N := 28) rfl ?_); refine goesL_ (some 28) rfl rfl Try.func29 (by kernel_rfl) rfl #[.slice (some ⟨ad.block, ad.off + 1, none⟩) 16 (c0 - 1)] rfl (by (try simp only [List.map_toArray, List.map_cons, List.map_nil]); first | done | rfl) ?_; (with_reducible refine (unpack_take_len 1 16 ad c0 l0 lba e1 _ HLN.out (by decide) rfl ?side1 HC0.out T1.out).mono ?_); (case side1 => exact (Kd.C_below HR0.out (by repeat (first | (with_reducible first | exact HB.out | apply below_alloc | apply pw_below_drewN | apply below_drew1 | refine below_set ?_ G1.out) | exact HB.out)))); rintro e w2 ⟨rfl, hd_⟩; have hb := drawn_below hd_; clear hd_; refine ⟨_, rfl, ?_⟩; have m_ := Aside0.mk (below_step (by repeat (first | (with_reducible first | exact HB.out | apply below_alloc | apply pw_below_drewN | apply below_drew1 | refine below_set ?_ G1.out) | exact HB.out)) hb); have n1_ := Aside0.mk (blk_below (g := g1) (o := .cells #[.int .i64 0, .int .i64 0, .int .i64 0] 40 (0, 0)) (by (with_reducible repeat (first | refine blk_drewN ?_ _ | refine blk_drew ?_ | refine blk_alloc ?_ _)); exact B1.out) hb); clear HB B1; have HB := m_; have B1 := n1_; clear m_ n1_; clear hb)
    | ((with_reducible refine gate_dst (N := 34) rfl ?_); refine goesL_ (some 34) rfl rfl Try.func29 (by kernel_rfl) rfl #[.slice (some ⟨ad.block, ad.off + 5, none⟩) 12 (c0 - 5)] rfl (by (try simp only [List.map_toArray, List.map_cons, List.map_nil]); first | done | rfl) ?_; (with_reducible refine (unpack_take_len 5 12 ad c0 l0 low e2 _ HLN.out (by decide) rfl ?side1 HC0.out T2.out).mono ?_); (case side1 => exact (Kd.C_below HR0.out (by repeat (first | (with_reducible first | exact HB.out | apply below_alloc | apply pw_below_drewN | apply below_drew1 | refine below_set ?_ G1.out) | exact HB.out)))); rintro e w3 ⟨rfl, hd_⟩; have hb := drawn_below hd_; clear hd_; refine ⟨_, rfl, ?_⟩; have m_ := Aside0.mk (below_step (by repeat (first | (with_reducible first | exact HB.out | apply below_alloc | apply pw_below_drewN | apply below_drew1 | refine below_set ?_ G1.out) | exact HB.out)) hb); have n1_ := Aside0.mk (blk_below (g := g1) (o := .cells #[.int .i64 0, .int .i64 0, .int .i64 0] 40 (0, 0)) (by (with_reducible repeat (first | refine blk_drewN ?_ _ | refine blk_drew ?_ | refine blk_alloc ?_ _)); exact B1.out) hb); clear HB B1; have HB := m_; have B1 := n1_; clear m_ n1_; clear hb)
    | ((with_reducible refine gate_dst (N := 40) rfl ?_); refine goesL_ (some 40) rfl rfl Try.func29 (by kernel_rfl) rfl #[.slice (some ⟨ad.block, ad.off + 9, none⟩) 8 (c0 - 9)] rfl (by (try simp only [List.map_toArray, List.map_cons, List.map_nil]); first | done | rfl) ?_; (with_reducible refine (unpack_take_len 9 8 ad c0 l0 high e3 _ HLN.out (by decide) rfl ?side1 HC0.out T3.out).mono ?_); (case side1 => exact (Kd.C_below HR0.out (by repeat (first | (with_reducible first | exact HB.out | apply below_alloc | apply pw_below_drewN | apply below_drew1 | refine below_set ?_ G1.out) | exact HB.out)))); rintro e w4 ⟨rfl, hd_⟩; have hb := drawn_below hd_; clear hd_; refine ⟨_, rfl, ?_⟩; have m_ := Aside0.mk (below_step (by repeat (first | (with_reducible first | exact HB.out | apply below_alloc | apply pw_below_drewN | apply below_drew1 | refine below_set ?_ G1.out) | exact HB.out)) hb); have n1_ := Aside0.mk (blk_below (g := g1) (o := .cells #[.int .i64 0, .int .i64 0, .int .i64 0] 40 (0, 0)) (by (with_reducible repeat (first | refine blk_drewN ?_ _ | refine blk_drew ?_ | refine blk_alloc ?_ _)); exact B1.out) hb); clear HB B1; have HB := m_; have B1 := n1_; clear m_ n1_; clear hb; have hy0 : w4.cell? ad = some (.int .u8 y0) := HCE.out _ HB.out 0 _ rfl)
    | ((with_reducible refine gate_dst (N := 12) rfl ?_); refine box_event ?hg (N := 12) ?hd (cs := #[.int .i64 0, .int .i64 0, .int .i64 0]) (t := 40) ?hr ?_; (case hd => rfl); (case hg => rfl); (case hr => first | (go_simp; done) | (go_simp; rfl)); intro g2 hg w5 hbox hb; have G2 := Aside0.mk (by rw [hg]; exact (below_size (by repeat (first | (with_reducible first | exact HB.out | apply below_alloc | apply pw_below_drewN | apply below_drew1 | refine below_set ?_ G1.out) | exact HB.out))) : w.heap.size ≤ g2); have L12 := Aside0.mk (by rw [hg]; exact blk_lt (by (with_reducible repeat (first | refine blk_drewN ?_ _ | refine blk_drew ?_ | refine blk_alloc ?_ _)); exact B1.out) : g1 < g2); have p_ := Aside0.mk hbox; have m_ := Aside0.mk (below_step (by repeat (first | (with_reducible first | exact HB.out | apply below_alloc | apply pw_below_drewN | apply below_drew1 | refine below_set ?_ G1.out) | exact HB.out)) hb); have n1_ := Aside0.mk (blk_below (g := g1) (o := .cells #[.int .i64 0, .int .i64 0, .int .i64 0] 40 (0, 0)) (by (with_reducible repeat (first | refine blk_drewN ?_ _ | refine blk_drew ?_ | refine blk_alloc ?_ _)); exact B1.out) hb); clear HB B1; have HB := m_; have B1 := n1_; clear m_ n1_; clear hb; have B2 := p_; clear p_ hbox hg; have s0 : w5.cell? ⟨g2, 0, none⟩ = some (.int .i64 0) := (blk_cell B2.out 0).trans rfl; have sf0 := blk_frozen B2.out 0; have s1 : w5.cell? ⟨g2, 1, none⟩ = some (.int .i64 0) := (blk_cell B2.out 1).trans rfl; have sf1 := blk_frozen B2.out 1; have s2 : w5.cell? ⟨g2, 2, none⟩ = some (.int .i64 0) := (blk_cell B2.out 2).trans rfl; have sf2 := blk_frozen B2.out 2)
    | ((with_reducible refine gate_dst (N := 13) rfl ?_); have ne_ : g1 ≠ g2 := (by have := L12.out; omega); have q1_ := Aside0.mk (blk_far (p := ⟨g2, 2, none⟩) (blk_far (p := ⟨g2, 1, none⟩) (blk_far (p := ⟨g2, 0, none⟩) B1.out ne_ (.int .i64 o0)) ne_ (.int .i64 o1)) ne_ (.int .i64 o2)); have q2_ := Aside0.mk (blk_put (cs' := #[.int .i64 o0, .int .i64 o1, .int .i64 o2]) (blk_put (cs' := #[.int .i64 o0, .int .i64 o1, .int .i64 0]) (blk_put (cs' := #[.int .i64 o0, .int .i64 0, .int .i64 0]) B2.out 0 (.int .i64 o0) rfl) 1 (.int .i64 o1) rfl) 2 (.int .i64 o2) rfl); have q3_ : Aside0 (Below w.heap.size w (((w5.setCell ⟨g2, 0, none⟩ (.int .i64 o0)).setCell ⟨g2, 1, none⟩ (.int .i64 o1)).setCell ⟨g2, 2, none⟩ (.int .i64 o2))) := Aside0.mk (below_set (below_set (below_set HB.out G2.out) G2.out) G2.out); clear B1 B2 HB ne_ s0 sf0 s1 sf1 s2 sf2; generalize (((w5.setCell ⟨g2, 0, none⟩ (.int .i64 o0)).setCell ⟨g2, 1, none⟩ (.int .i64 o1)).setCell ⟨g2, 2, none⟩ (.int .i64 o2)) = w6 at q1_ q2_ q3_ ⊢; have B1 := q1_; have B2 := q2_; have HB := q3_; clear q1_ q2_ q3_; refine box_event ?hg (N := 13) ?hd (cs := (List.replicate 13 (Value.int .u8 0)).toArray) (t := 65) ?hr ?_; (case hd => rfl); (case hg => rfl); (case hr => first | (go_simp; done) | (go_simp; rfl)); intro g3 hg w7 hbox hb; have G3 := Aside0.mk (by rw [hg]; exact (below_size (by repeat (first | (with_reducible first | exact HB.out | apply below_alloc | apply pw_below_drewN | apply below_drew1 | refine below_set ?_ G1.out) | exact HB.out))) : w.heap.size ≤ g3); have L13 := Aside0.mk (by rw [hg]; exact blk_lt (by (with_reducible repeat (first | refine blk_drewN ?_ _ | refine blk_drew ?_ | refine blk_alloc ?_ _)); exact B1.out) : g1 < g3); have L23 := Aside0.mk (by rw [hg]; exact blk_lt (by (with_reducible repeat (first | refine blk_drewN ?_ _ | refine blk_drew ?_ | refine blk_alloc ?_ _)); exact B2.out) : g2 < g3); have p_ := Aside0.mk hbox; have m_ := Aside0.mk (below_step (by repeat (first | (with_reducible first | exact HB.out | apply below_alloc | apply pw_below_drewN | apply below_drew1 | refine below_set ?_ G1.out) | exact HB.out)) hb); have n1_ := Aside0.mk (blk_below (g := g1) (o := .cells #[.int .i64 0, .int .i64 0, .int .i64 0] 40 (0, 0)) (by (with_reducible repeat (first | refine blk_drewN ?_ _ | refine blk_drew ?_ | refine blk_alloc ?_ _)); exact B1.out) hb); have n2_ := Aside0.mk (blk_below (g := g2) (o := .cells #[.int .i64 o0, .int .i64 o1, .int .i64 o2] 40 (0, 0)) (by (with_reducible repeat (first | refine blk_drewN ?_ _ | refine blk_drew ?_ | refine blk_alloc ?_ _)); exact B2.out) hb); clear HB B1 B2; have HB := m_; have B1 := n1_; have B2 := n2_; clear m_ n1_ n2_; clear hb; have B3 := p_; clear p_ hbox hg)
    | ((with_reducible refine gate_builtin (b := .copy) (xs := #[.tmp 59, .tmp 60]) rfl ?_); refine wpList_copy_splice rfl (.tmp 59) (.tmp 60) 36 36 rfl 5 Try.underlying36 (by kernel_rfl) (some ⟨g3, 0, none⟩) (some ad) 13 13 17 c0 rfl rfl g3 0 (List.replicate 13 (Value.int .u8 0)) 65 B3.out [.int .u8 y0, .int .u8 y1, .int .u8 y2, .int .u8 y3, .int .u8 y4, .int .u8 y5, .int .u8 y6, .int .u8 y7, .int .u8 y8, .int .u8 y9, .int .u8 y10, .int .u8 y11, .int .u8 y12] rfl (fun _ => ⟨rfl, ad, rfl, HCE.out _ (by repeat (first | (with_reducible first | exact HB.out | apply below_alloc | apply pw_below_drewN | apply below_drew1 | refine below_set ?_ G1.out) | exact HB.out))⟩) (by simp) (by simp [Value.oneCell']) g3 w7 (Below.refl _ _) (Nat.le_refl _) ?_; intro w8 hg7 hb7; have n1_ : Aside0 (w8.heap[g1]? = some (.cells #[.int .i64 0, .int .i64 0, .int .i64 0] 40 (0, 0))) := ⟨(hb7.block g1 L13.out).trans B1.out⟩; have n2_ : Aside0 (w8.heap[g2]? = some (.cells #[.int .i64 o0, .int .i64 o1, .int .i64 o2] 40 (0, 0))) := ⟨(hb7.block g2 L23.out).trans B2.out⟩; have n3_ : Aside0 (w8.heap[g3]? = some (.cells ([.int .u8 y0, .int .u8 y1, .int .u8 y2, .int .u8 y3, .int .u8 y4, .int .u8 y5, .int .u8 y6, .int .u8 y7, .int .u8 y8, .int .u8 y9, .int .u8 y10, .int .u8 y11, .int .u8 y12] : List Value).toArray 65 (0, 0))) := ⟨hg7.out⟩; have n4_ : Aside0 (Below w.heap.size w w8) := ⟨HB.out.trans (hb7.mono G3.out)⟩; clear B1 B2 B3 HB hb7 hg7; have B1 := n1_; have B2 := n2_; have B4 := n3_; have HB := n4_; clear n1_ n2_ n3_ n4_))
  have t0 : w8.cell? ⟨g2, 0, none⟩ = some (.int .i64 o0) := (blk_cell B2.out 0).trans rfl
  have t1 : w8.cell? ⟨g2, 1, none⟩ = some (.int .i64 o1) := (blk_cell B2.out 1).trans rfl
  have t2 : w8.cell? ⟨g2, 2, none⟩ = some (.int .i64 o2) := (blk_cell B2.out 2).trans rfl
  have b0 : w8.cell? ⟨g3, 0, none⟩ = some (.int .u8 y0) := (blk_cell B4.out 0).trans rfl
  have b1 : w8.cell? ⟨g3, 1, none⟩ = some (.int .u8 y1) := (blk_cell B4.out 1).trans rfl
  have b2 : w8.cell? ⟨g3, 2, none⟩ = some (.int .u8 y2) := (blk_cell B4.out 2).trans rfl
  have b3 : w8.cell? ⟨g3, 3, none⟩ = some (.int .u8 y3) := (blk_cell B4.out 3).trans rfl
  have b4 : w8.cell? ⟨g3, 4, none⟩ = some (.int .u8 y4) := (blk_cell B4.out 4).trans rfl
  have b5 : w8.cell? ⟨g3, 5, none⟩ = some (.int .u8 y5) := (blk_cell B4.out 5).trans rfl
  have b6 : w8.cell? ⟨g3, 6, none⟩ = some (.int .u8 y6) := (blk_cell B4.out 6).trans rfl
  have b7 : w8.cell? ⟨g3, 7, none⟩ = some (.int .u8 y7) := (blk_cell B4.out 7).trans rfl
  have b8 : w8.cell? ⟨g3, 8, none⟩ = some (.int .u8 y8) := (blk_cell B4.out 8).trans rfl
  have b9 : w8.cell? ⟨g3, 9, none⟩ = some (.int .u8 y9) := (blk_cell B4.out 9).trans rfl
  have b10 : w8.cell? ⟨g3, 10, none⟩ = some (.int .u8 y10) := (blk_cell B4.out 10).trans rfl
  have b11 : w8.cell? ⟨g3, 11, none⟩ = some (.int .u8 y11) := (blk_cell B4.out 11).trans rfl
  have b12 : w8.cell? ⟨g3, 12, none⟩ = some (.int .u8 y12) := (blk_cell B4.out 12).trans rfl
  go_region_law (first
    | (refine goes_ (f := 30) Try.func30 (by kernel_rfl) rfl #[.agg #[.int .i64 o0, .int .i64 o1, .int .i64 o2]] (by rfl) rfl rfl (by simp only [List.map_toArray, List.map_cons, List.map_nil]; rfl) ?_; (with_reducible refine (oob_Right.calls o0 o1 o2 true _ HRT.out).mono ?_); rintro e wa ⟨rfl, hb⟩; refine ⟨_, rfl, ?_⟩; clear t0 t1 t2 b0 b1 b2 b3 b4 b5 b6 b7 b8 b9 b10 b11 b12; have m_ := Aside0.mk (below_step (by repeat (first | (with_reducible first | exact HB.out | apply below_alloc | apply pw_below_drewN | apply below_drew1 | refine below_set ?_ G1.out) | exact HB.out)) hb); have n1_ := Aside0.mk (blk_below (g := g1) (o := .cells #[.int .i64 0, .int .i64 0, .int .i64 0] 40 (0, 0)) (by (with_reducible repeat (first | refine blk_drewN ?_ _ | refine blk_drew ?_ | refine blk_alloc ?_ _)); exact B1.out) hb); have n2_ := Aside0.mk (blk_below (g := g2) (o := .cells #[.int .i64 o0, .int .i64 o1, .int .i64 o2] 40 (0, 0)) (by (with_reducible repeat (first | refine blk_drewN ?_ _ | refine blk_drew ?_ | refine blk_alloc ?_ _)); exact B2.out) hb); have n4_ := Aside0.mk (blk_below (g := g3) (o := .cells ([.int .u8 y0, .int .u8 y1, .int .u8 y2, .int .u8 y3, .int .u8 y4, .int .u8 y5, .int .u8 y6, .int .u8 y7, .int .u8 y8, .int .u8 y9, .int .u8 y10, .int .u8 y11, .int .u8 y12] : List Value).toArray 65 (0, 0)) (by (with_reducible repeat (first | refine blk_drewN ?_ _ | refine blk_drew ?_ | refine blk_alloc ?_ _)); exact B4.out) hb); clear HB B1 B2 B4; have HB := m_; have B1 := n1_; have B2 := n2_; have B4 := n4_; clear m_ n1_ n2_ n4_; clear hb; have t0 : wa.cell? ⟨g2, 0, none⟩ = some (.int .i64 o0) := (blk_cell B2.out 0).trans rfl; have t1 : wa.cell? ⟨g2, 1, none⟩ = some (.int .i64 o1) := (blk_cell B2.out 1).trans rfl; have t2 : wa.cell? ⟨g2, 2, none⟩ = some (.int .i64 o2) := (blk_cell B2.out 2).trans rfl; have b0 : wa.cell? ⟨g3, 0, none⟩ = some (.int .u8 y0) := (blk_cell B4.out 0).trans rfl; have b1 : wa.cell? ⟨g3, 1, none⟩ = some (.int .u8 y1) := (blk_cell B4.out 1).trans rfl; have b2 : wa.cell? ⟨g3, 2, none⟩ = some (.int .u8 y2) := (blk_cell B4.out 2).trans rfl; have b3 : wa.cell? ⟨g3, 3, none⟩ = some (.int .u8 y3) := (blk_cell B4.out 3).trans rfl; have b4 : wa.cell? ⟨g3, 4, none⟩ = some (.int .u8 y4) := (blk_cell B4.out 4).trans rfl; have b5 : wa.cell? ⟨g3, 5, none⟩ = some (.int .u8 y5) := (blk_cell B4.out 5).trans rfl; have b6 : wa.cell? ⟨g3, 6, none⟩ = some (.int .u8 y6) := (blk_cell B4.out 6).trans rfl; have b7 : wa.cell? ⟨g3, 7, none⟩ = some (.int .u8 y7) := (blk_cell B4.out 7).trans rfl; have b8 : wa.cell? ⟨g3, 8, none⟩ = some (.int .u8 y8) := (blk_cell B4.out 8).trans rfl; have b9 : wa.cell? ⟨g3, 9, none⟩ = some (.int .u8 y9) := (blk_cell B4.out 9).trans rfl; have b10 : wa.cell? ⟨g3, 10, none⟩ = some (.int .u8 y10) := (blk_cell B4.out 10).trans rfl; have b11 : wa.cell? ⟨g3, 11, none⟩ = some (.int .u8 y11) := (blk_cell B4.out 11).trans rfl; have b12 : wa.cell? ⟨g3, 12, none⟩ = some (.int .u8 y12) := (blk_cell B4.out 12).trans rfl)
    | (refine goes_ (f := 31) Try.func31 (by kernel_rfl) rfl #[.agg #[.int .i64 o0, .int .i64 o1, .int .i64 o2]] (by rfl) rfl rfl (by simp only [List.map_toArray, List.map_cons, List.map_nil]; rfl) ?_; (with_reducible refine (HLD.out _).mono ?_); rintro e wb ⟨rfl, hb⟩; refine ⟨_, rfl, ?_⟩; clear t0 t1 t2 b0 b1 b2 b3 b4 b5 b6 b7 b8 b9 b10 b11 b12; have m_ := Aside0.mk (below_step (by repeat (first | (with_reducible first | exact HB.out | apply below_alloc | apply pw_below_drewN | apply below_drew1 | refine below_set ?_ G1.out) | exact HB.out)) hb); have n1_ := Aside0.mk (blk_below (g := g1) (o := .cells #[.int .i64 0, .int .i64 0, .int .i64 0] 40 (0, 0)) (by (with_reducible repeat (first | refine blk_drewN ?_ _ | refine blk_drew ?_ | refine blk_alloc ?_ _)); exact B1.out) hb); have n2_ := Aside0.mk (blk_below (g := g2) (o := .cells #[.int .i64 o0, .int .i64 o1, .int .i64 o2] 40 (0, 0)) (by (with_reducible repeat (first | refine blk_drewN ?_ _ | refine blk_drew ?_ | refine blk_alloc ?_ _)); exact B2.out) hb); have n4_ := Aside0.mk (blk_below (g := g3) (o := .cells ([.int .u8 y0, .int .u8 y1, .int .u8 y2, .int .u8 y3, .int .u8 y4, .int .u8 y5, .int .u8 y6, .int .u8 y7, .int .u8 y8, .int .u8 y9, .int .u8 y10, .int .u8 y11, .int .u8 y12] : List Value).toArray 65 (0, 0)) (by (with_reducible repeat (first | refine blk_drewN ?_ _ | refine blk_drew ?_ | refine blk_alloc ?_ _)); exact B4.out) hb); clear HB B1 B2 B4; have HB := m_; have B1 := n1_; have B2 := n2_; have B4 := n4_; clear m_ n1_ n2_ n4_; clear hb; have t0 : wb.cell? ⟨g2, 0, none⟩ = some (.int .i64 o0) := (blk_cell B2.out 0).trans rfl; have t1 : wb.cell? ⟨g2, 1, none⟩ = some (.int .i64 o1) := (blk_cell B2.out 1).trans rfl; have t2 : wb.cell? ⟨g2, 2, none⟩ = some (.int .i64 o2) := (blk_cell B2.out 2).trans rfl; have b0 : wb.cell? ⟨g3, 0, none⟩ = some (.int .u8 y0) := (blk_cell B4.out 0).trans rfl; have b1 : wb.cell? ⟨g3, 1, none⟩ = some (.int .u8 y1) := (blk_cell B4.out 1).trans rfl; have b2 : wb.cell? ⟨g3, 2, none⟩ = some (.int .u8 y2) := (blk_cell B4.out 2).trans rfl; have b3 : wb.cell? ⟨g3, 3, none⟩ = some (.int .u8 y3) := (blk_cell B4.out 3).trans rfl; have b4 : wb.cell? ⟨g3, 4, none⟩ = some (.int .u8 y4) := (blk_cell B4.out 4).trans rfl; have b5 : wb.cell? ⟨g3, 5, none⟩ = some (.int .u8 y5) := (blk_cell B4.out 5).trans rfl; have b6 : wb.cell? ⟨g3, 6, none⟩ = some (.int .u8 y6) := (blk_cell B4.out 6).trans rfl; have b7 : wb.cell? ⟨g3, 7, none⟩ = some (.int .u8 y7) := (blk_cell B4.out 7).trans rfl; have b8 : wb.cell? ⟨g3, 8, none⟩ = some (.int .u8 y8) := (blk_cell B4.out 8).trans rfl; have b9 : wb.cell? ⟨g3, 9, none⟩ = some (.int .u8 y9) := (blk_cell B4.out 9).trans rfl; have b10 : wb.cell? ⟨g3, 10, none⟩ = some (.int .u8 y10) := (blk_cell B4.out 10).trans rfl; have b11 : wb.cell? ⟨g3, 11, none⟩ = some (.int .u8 y11) := (blk_cell B4.out 11).trans rfl; have b12 : wb.cell? ⟨g3, 12, none⟩ = some (.int .u8 y12) := (blk_cell B4.out 12).trans rfl))
  all_goals
    clear t0 t1 t2
    go_wp2_with (first
    | ((with_reducible refine gate_dst (N := 75) rfl ?_); refine goesL_ (some 75) rfl rfl Try.func29 (by kernel_rfl) rfl #[.slice (some ⟨ad.block, ad.off + 13, none⟩) 4 (c0 - 13)] rfl (by (try simp only [List.map_toArray, List.map_cons, List.map_nil]); first | done | rfl) ?_; (with_reducible refine (unpack_take_len 13 4 ad c0 l0 sm e4 _ HLN.out (by decide) rfl ?side1 HC0.out T4.out).mono ?_); (case side1 => exact (Kd.C_below HR0.out (by repeat (first | (with_reducible first | exact HB.out | apply below_alloc | apply pw_below_drewN | apply below_drew1 | refine below_set ?_ G1.out | refine below_set ?_ G2.out) | exact HB.out)))); rintro e wc ⟨rfl, hd_⟩; have hb := drawn_below hd_; clear hd_; refine ⟨_, rfl, ?_⟩; have m_ := Aside0.mk (below_step (by repeat (first | (with_reducible first | exact HB.out | apply below_alloc | apply pw_below_drewN | apply below_drew1 | refine below_set ?_ G1.out | refine below_set ?_ G2.out) | exact HB.out)) hb); have n1_ := Aside0.mk (blk_below (g := g1) (o := .cells #[.int .i64 0, .int .i64 0, .int .i64 0] 40 (0, 0)) (by (with_reducible repeat (first | refine blk_drewN ?_ _ | refine blk_drew ?_ | refine blk_alloc ?_ _)); exact B1.out) hb); have n2_ := Aside0.mk (blk_below (g := g2) (o := .cells #[.int .i64 o0, .int .i64 o1, .int .i64 o2] 40 (0, 0)) (by (with_reducible repeat (first | refine blk_drewN ?_ _ | refine blk_drew ?_ | refine blk_alloc ?_ _)); exact B2.out) hb); clear HB B1 B2; have HB := m_; have B1 := n1_; have B2 := n2_; clear m_ n1_ n2_; clear hb)
    | ((with_reducible refine gate_dst (N := 81) rfl ?_); refine goesL_ (some 81) rfl rfl Try.func33 (by kernel_rfl) rfl #[.slice (some ad) 13 c0] rfl (by (try simp only [List.map_toArray, List.map_cons, List.map_nil]); first | done | rfl) ?_; (with_reducible refine (unpack_sum_pre 13 k ad l0 s1 _ HLN.out (by decide) ?side1 c0 HC0.out HS.out).mono ?_); (case side1 => exact (Kd.C_below HR0.out (by repeat (first | (with_reducible first | exact HB.out | apply below_alloc | apply pw_below_drewN | apply below_drew1 | refine below_set ?_ G1.out) | exact HB.out)))); rintro e wd ⟨rfl, hd_⟩; have hb := drawn_below hd_; clear hd_; refine ⟨_, rfl, ?_⟩; have m_ := Aside0.mk (below_step (by repeat (first | (with_reducible first | exact HB.out | apply below_alloc | apply pw_below_drewN | apply below_drew1 | refine below_set ?_ G1.out) | exact HB.out)) hb); have n1_ := Aside0.mk (blk_below (g := g1) (o := .cells #[.int .i64 0, .int .i64 0, .int .i64 0] 40 (0, 0)) (by (with_reducible repeat (first | refine blk_drewN ?_ _ | refine blk_drew ?_ | refine blk_alloc ?_ _)); exact B1.out) hb); have n2_ := Aside0.mk (blk_below (g := g2) (o := .cells #[.int .i64 o0, .int .i64 o1, .int .i64 o2] 40 (0, 0)) (by (with_reducible repeat (first | refine blk_drewN ?_ _ | refine blk_drew ?_ | refine blk_alloc ?_ _)); exact B2.out) hb); clear HB B1 B2; have HB := m_; have B1 := n1_; have B2 := n2_; clear m_ n1_ n2_; clear hb)
    | ((with_reducible refine gate_dst (N := 83) rfl ?_); refine goesL_ (some 83) rfl rfl Try.func32 (by kernel_rfl) rfl #[.int .u32 s1, .slice A1 16 c1] rfl (by (try simp only [List.map_toArray, List.map_cons, List.map_nil]); first | done | rfl) ?_; (with_reducible refine (unpack_add_len k s1 _ _ u1 _ HLM.out ?side1 c1 HC1.out HA.out).mono ?_); (case side1 => exact (Kd.C_below HR1.out (by repeat (first | (with_reducible first | exact HB.out | apply below_alloc | apply pw_below_drewN | apply below_drew1 | refine below_set ?_ G1.out) | exact HB.out)))); rintro e we ⟨rfl, hd_⟩; have hb := drawn_below hd_; clear hd_; refine ⟨_, rfl, ?_⟩; have m_ := Aside0.mk (below_step (by repeat (first | (with_reducible first | exact HB.out | apply below_alloc | apply pw_below_drewN | apply below_drew1 | refine below_set ?_ G1.out) | exact HB.out)) hb); have n1_ := Aside0.mk (blk_below (g := g1) (o := .cells #[.int .i64 0, .int .i64 0, .int .i64 0] 40 (0, 0)) (by (with_reducible repeat (first | refine blk_drewN ?_ _ | refine blk_drew ?_ | refine blk_alloc ?_ _)); exact B1.out) hb); have n2_ := Aside0.mk (blk_below (g := g2) (o := .cells #[.int .i64 o0, .int .i64 o1, .int .i64 o2] 40 (0, 0)) (by (with_reducible repeat (first | refine blk_drewN ?_ _ | refine blk_drew ?_ | refine blk_alloc ?_ _)); exact B2.out) hb); clear HB B1 B2; have HB := m_; have B1 := n1_; have B2 := n2_; clear m_ n1_ n2_; clear hb; have t0 : we.cell? ⟨g2, 0, none⟩ = some (.int .i64 o0) := (blk_cell B2.out 0).trans rfl; have t1 : we.cell? ⟨g2, 1, none⟩ = some (.int .i64 o1) := (blk_cell B2.out 1).trans rfl; have t2 : we.cell? ⟨g2, 2, none⟩ = some (.int .i64 o2) := (blk_cell B2.out 2).trans rfl; have z0 : we.cell? ⟨g1, 0, none⟩ = some (.int .i64 0) := (blk_cell B1.out 0).trans rfl; have zf0 := blk_frozen B1.out 0; have z1 : we.cell? ⟨g1, 1, none⟩ = some (.int .i64 0) := (blk_cell B1.out 1).trans rfl; have zf1 := blk_frozen B1.out 1; have z2 : we.cell? ⟨g1, 2, none⟩ = some (.int .i64 0) := (blk_cell B1.out 2).trans rfl; have zf2 := blk_frozen B1.out 2))
    refine bodyPost_ret (results_ct rfl _ _ g1 40 #[.int .i64 0, .int .i64 0, .int .i64 0] (0, 0) _ rfl (by (with_reducible repeat (first | refine blk_drewN ?_ _ | refine blk_drew ?_ | refine blk_alloc ?_ _)); refine blk_put (cs := #[.int .i64 0, .int .i64 0, .int .i64 0]) ?_ 2 _ rfl; (with_reducible repeat (first | refine blk_drewN ?_ _ | refine blk_drew ?_ | refine blk_alloc ?_ _)); refine blk_put (cs := #[.int .i64 0, .int .i64 0, .int .i64 0]) ?_ 1 _ rfl; (with_reducible repeat (first | refine blk_drewN ?_ _ | refine blk_drew ?_ | refine blk_alloc ?_ _)); refine blk_put (cs := #[.int .i64 0, .int .i64 0, .int .i64 0]) ?_ 0 _ rfl; (with_reducible repeat (first | refine blk_drewN ?_ _ | refine blk_drew ?_ | refine blk_alloc ?_ _)); exact B1.out) Try.underlying40 rfl (by kernel_rfl)) rfl ?_
    exact ⟨rfl, by repeat (first | (with_reducible first | exact HB.out | apply below_alloc | apply pw_below_drewN | apply below_drew1 | refine below_set ?_ G1.out) | exact HB.out)⟩
set_option maxHeartbeats 2000000 in
set_option maxRecDepth 100000 in
theorem oob_unpack_e (k : Nat) (ad : Addr) (c0 : Nat) (l0 : List Int) (A1 : Option Addr) (c1 : Nat) (l1 : List Int) (lba e1 low e2 high e3 o0 o1 o2 : Int) (y0 y1 y2 y3 y4 y5 y6 y7 y8 y9 y10 y11 y12 : Int) (w : World) (hr0 : Kd.C (Kd.int .u8) w (some ad) 17 l0) (hc0 : 17 ≤ c0) (hr1 : Kd.C (Kd.int .u8) w A1 16 l1) (hc1 : 16 ≤ c1)
    (hl0 : l0.length = 17) (hl1 : l1.length = 16) (hY : l0.take 13 = [y0, y1, y2, y3, y4, y5, y6, y7, y8, y9, y10, y11, y12])
    (hT1 : wire_TakeFixed.f (l0.drop 1) = some (lba, e1)) (hT2 : wire_TakeFixed.f (l0.drop 5) = some (low, e2)) (hT3 : wire_TakeFixed.f (l0.drop 9) = some (high, e3)) (hh : high ≤ 262144) (E0 : wrap64 y0 = o0) (E1 : wrap64 lba = o1) (E2 : Go.bits .or .i64 (wrap64 (wrap64 high * 4294967296)) (wrap64 low) = o2) (hR : oob_Right.f o0 o1 o2 = some true) (hL : ∀ w, Calls Try.prog 31 #[.agg #[.int .i64 o0, .int .i64 o1, .int .i64 o2]] w fun e w' => e = .returned (.agg #[.int .u8 y0, .int .u8 y1, .int .u8 y2, .int .u8 y3, .int .u8 y4, .int .u8 y5, .int .u8 y6, .int .u8 y7, .int .u8 y8, .int .u8 y9, .int .u8 y10, .int .u8 y11, .int .u8 y12]) ∧ Below w.heap.size w w') (e4 s1 u1 : Int) (hT4 : wire_TakeFixed.f (l0.drop 13) = some (u1, e4)) (hS : crc_Sum.f k (l0.take 13) = some s1) (hA : crc_Add.f k s1 l1 = some u1) :
    Calls Try.prog 18 #[.slice (some ad) 17 c0, .slice A1 16 c1] w fun e w' => e = .returned (.tuple #[.agg #[.int .i64 o0, .int .i64 o1, .int .i64 o2], .int .i64 0]) ∧ Below w.heap.size w w' := by
  have HR0 := Aside0.mk hr0
  have HC0 := Aside0.mk hc0
  have HR1 := Aside0.mk hr1
  have HC1 := Aside0.mk hc1
  have HLN := Aside0.mk hl0
  have HLM := Aside0.mk hl1
  have T1 := Aside0.mk hT1
  have T2 := Aside0.mk hT2
  have T3 := Aside0.mk hT3
  have HCE : Aside0 (∀ W, Below w.heap.size w W → ∀ j v, ([.int .u8 y0, .int .u8 y1, .int .u8 y2, .int .u8 y3, .int .u8 y4, .int .u8 y5, .int .u8 y6, .int .u8 y7, .int .u8 y8, .int .u8 y9, .int .u8 y10, .int .u8 y11, .int .u8 y12] : List Value)[j]? = some v → W.cell? (ad.add j) = some v) := ⟨fun W hW => by have := cells_of (Kd.C_below hr0 hW) 13 (by decide); rw [hY] at this; exact this⟩
  have i1 : ¬ c0 = 1 := by omega
  have i5 : ¬ c0 = 5 := by omega
  have i9 : ¬ c0 = 9 := by omega
  have i13 : ¬ c0 = 13 := by omega
  have j13 : ¬ (c0 : Int) < 13 := by omega
  have hhb : decide (262144 < high) = false := decide_eq_false (by omega)
  clear hr0 hc0 hr1 hc1 hl0 hl1 hT1 hT2 hT3 hh
  have HRT := Aside0.mk hR
  have HLD := Aside0.mk hL
  have T4 := Aside0.mk hT4
  have HS := Aside0.mk hS
  have HA := Aside0.mk hA
  clear hR hL hT4 hS hA
  have EQ : ∀ W : World, (Op.equalIn 10000 65 (.agg #[.int .u8 y0, .int .u8 y1, .int .u8 y2, .int .u8 y3, .int .u8 y4, .int .u8 y5, .int .u8 y6, .int .u8 y7, .int .u8 y8, .int .u8 y9, .int .u8 y10, .int .u8 y11, .int .u8 y12]) (.agg #[.int .u8 y0, .int .u8 y1, .int .u8 y2, .int .u8 y3, .int .u8 y4, .int .u8 y5, .int .u8 y6, .int .u8 y7, .int .u8 y8, .int .u8 y9, .int .u8 y10, .int .u8 y11, .int .u8 y12])).run Try.prog W = .ok true W := fun W => by
    have e := eq_arr W 9998 65 5 13 Try.underlying65 Try.underlying5 (fun w => Try.sizeOf5 w) [y0, y1, y2, y3, y4, y5, y6, y7, y8, y9, y10, y11, y12] [y0, y1, y2, y3, y4, y5, y6, y7, y8, y9, y10, y11, y12] rfl rfl
    rw [beq_self_eq_true] at e
    exact e
  have hu65 := Try.underlying65
  have hu40 := Try.underlying40
  have HB := Aside0.mk (Below.refl w.heap.size w)
  go_enter Try.func18, Try.ntmps18
  go_wp2_with (first
    | ((with_reducible refine gate_dst (N := 4) rfl ?_); refine box_event ?hg (N := 4) ?hd (cs := #[.int .i64 0, .int .i64 0, .int .i64 0]) (t := 40) ?hr ?_; (case hd => rfl); (case hg => rfl); (case hr => first | (go_simp; done) | (go_simp; rfl)); intro g1 hg w1 hbox hb; have G1 := Aside0.mk (by rw [hg]; exact (below_size (by repeat (first | (with_reducible first | exact HB.out | apply below_alloc | apply pw_below_drewN | apply below_drew1) | exact HB.out))) : w.heap.size ≤ g1); have p_ := Aside0.mk hbox; have m_ := Aside0.mk (below_step (by repeat (first | (with_reducible first | exact HB.out | apply below_alloc | apply pw_below_drewN | apply below_drew1) | exact HB.out)) hb); clear HB; have HB := m_; clear m_; clear hb; have B1 := p_; clear p_ hbox hg)
    | ((with_reducible refine gate_dst (N := 28) rfl ?_); refine goesL_ (some 28) rfl rfl Try.func29 (by kernel_rfl) rfl #[.slice (some ⟨ad.block, ad.off + 1, none⟩) 16 (c0 - 1)] rfl (by (try simp only [List.map_toArray, List.map_cons, List.map_nil]); first | done | rfl) ?_; (with_reducible refine (unpack_take_len 1 16 ad c0 l0 lba e1 _ HLN.out (by decide) rfl ?side1 HC0.out T1.out).mono ?_); (case side1 => exact (Kd.C_below HR0.out (by repeat (first | (with_reducible first | exact HB.out | apply below_alloc | apply pw_below_drewN | apply below_drew1 | refine below_set ?_ G1.out) | exact HB.out)))); rintro e w2 ⟨rfl, hd_⟩; have hb := drawn_below hd_; clear hd_; refine ⟨_, rfl, ?_⟩; have m_ := Aside0.mk (below_step (by repeat (first | (with_reducible first | exact HB.out | apply below_alloc | apply pw_below_drewN | apply below_drew1 | refine below_set ?_ G1.out) | exact HB.out)) hb); have n1_ := Aside0.mk (blk_below (g := g1) (o := .cells #[.int .i64 0, .int .i64 0, .int .i64 0] 40 (0, 0)) (by (with_reducible repeat (first | refine blk_drewN ?_ _ | refine blk_drew ?_ | refine blk_alloc ?_ _)); exact B1.out) hb); clear HB B1; have HB := m_; have B1 := n1_; clear m_ n1_; clear hb)
    | ((with_reducible refine gate_dst (N := 34) rfl ?_); refine goesL_ (some 34) rfl rfl Try.func29 (by kernel_rfl) rfl #[.slice (some ⟨ad.block, ad.off + 5, none⟩) 12 (c0 - 5)] rfl (by (try simp only [List.map_toArray, List.map_cons, List.map_nil]); first | done | rfl) ?_; (with_reducible refine (unpack_take_len 5 12 ad c0 l0 low e2 _ HLN.out (by decide) rfl ?side1 HC0.out T2.out).mono ?_); (case side1 => exact (Kd.C_below HR0.out (by repeat (first | (with_reducible first | exact HB.out | apply below_alloc | apply pw_below_drewN | apply below_drew1 | refine below_set ?_ G1.out) | exact HB.out)))); rintro e w3 ⟨rfl, hd_⟩; have hb := drawn_below hd_; clear hd_; refine ⟨_, rfl, ?_⟩; have m_ := Aside0.mk (below_step (by repeat (first | (with_reducible first | exact HB.out | apply below_alloc | apply pw_below_drewN | apply below_drew1 | refine below_set ?_ G1.out) | exact HB.out)) hb); have n1_ := Aside0.mk (blk_below (g := g1) (o := .cells #[.int .i64 0, .int .i64 0, .int .i64 0] 40 (0, 0)) (by (with_reducible repeat (first | refine blk_drewN ?_ _ | refine blk_drew ?_ | refine blk_alloc ?_ _)); exact B1.out) hb); clear HB B1; have HB := m_; have B1 := n1_; clear m_ n1_; clear hb)
    | ((with_reducible refine gate_dst (N := 40) rfl ?_); refine goesL_ (some 40) rfl rfl Try.func29 (by kernel_rfl) rfl #[.slice (some ⟨ad.block, ad.off + 9, none⟩) 8 (c0 - 9)] rfl (by (try simp only [List.map_toArray, List.map_cons, List.map_nil]); first | done | rfl) ?_; (with_reducible refine (unpack_take_len 9 8 ad c0 l0 high e3 _ HLN.out (by decide) rfl ?side1 HC0.out T3.out).mono ?_); (case side1 => exact (Kd.C_below HR0.out (by repeat (first | (with_reducible first | exact HB.out | apply below_alloc | apply pw_below_drewN | apply below_drew1 | refine below_set ?_ G1.out) | exact HB.out)))); rintro e w4 ⟨rfl, hd_⟩; have hb := drawn_below hd_; clear hd_; refine ⟨_, rfl, ?_⟩; have m_ := Aside0.mk (below_step (by repeat (first | (with_reducible first | exact HB.out | apply below_alloc | apply pw_below_drewN | apply below_drew1 | refine below_set ?_ G1.out) | exact HB.out)) hb); have n1_ := Aside0.mk (blk_below (g := g1) (o := .cells #[.int .i64 0, .int .i64 0, .int .i64 0] 40 (0, 0)) (by (with_reducible repeat (first | refine blk_drewN ?_ _ | refine blk_drew ?_ | refine blk_alloc ?_ _)); exact B1.out) hb); clear HB B1; have HB := m_; have B1 := n1_; clear m_ n1_; clear hb; have hy0 : w4.cell? ad = some (.int .u8 y0) := HCE.out _ HB.out 0 _ rfl)
    | ((with_reducible refine gate_dst (N := 12) rfl ?_); refine box_event ?hg (N := 12) ?hd (cs := #[.int .i64 0, .int .i64 0, .int .i64 0]) (t := 40) ?hr ?_; (case hd => rfl); (case hg => rfl); (case hr => first | (go_simp; done) | (go_simp; rfl)); intro g2 hg w5 hbox hb; have G2 := Aside0.mk (by rw [hg]; exact (below_size (by repeat (first | (with_reducible first | exact HB.out | apply below_alloc | apply pw_below_drewN | apply below_drew1 | refine below_set ?_ G1.out) | exact HB.out))) : w.heap.size ≤ g2); have L12 := Aside0.mk (by rw [hg]; exact blk_lt (by (with_reducible repeat (first | refine blk_drewN ?_ _ | refine blk_drew ?_ | refine blk_alloc ?_ _)); exact B1.out) : g1 < g2); have p_ := Aside0.mk hbox; have m_ := Aside0.mk (below_step (by repeat (first | (with_reducible first | exact HB.out | apply below_alloc | apply pw_below_drewN | apply below_drew1 | refine below_set ?_ G1.out) | exact HB.out)) hb); have n1_ := Aside0.mk (blk_below (g := g1) (o := .cells #[.int .i64 0, .int .i64 0, .int .i64 0] 40 (0, 0)) (by (with_reducible repeat (first | refine blk_drewN ?_ _ | refine blk_drew ?_ | refine blk_alloc ?_ _)); exact B1.out) hb); clear HB B1; have HB := m_; have B1 := n1_; clear m_ n1_; clear hb; have B2 := p_; clear p_ hbox hg; have s0 : w5.cell? ⟨g2, 0, none⟩ = some (.int .i64 0) := (blk_cell B2.out 0).trans rfl; have sf0 := blk_frozen B2.out 0; have s1 : w5.cell? ⟨g2, 1, none⟩ = some (.int .i64 0) := (blk_cell B2.out 1).trans rfl; have sf1 := blk_frozen B2.out 1; have s2 : w5.cell? ⟨g2, 2, none⟩ = some (.int .i64 0) := (blk_cell B2.out 2).trans rfl; have sf2 := blk_frozen B2.out 2)
    | ((with_reducible refine gate_dst (N := 13) rfl ?_); have ne_ : g1 ≠ g2 := (by have := L12.out; omega); have q1_ := Aside0.mk (blk_far (p := ⟨g2, 2, none⟩) (blk_far (p := ⟨g2, 1, none⟩) (blk_far (p := ⟨g2, 0, none⟩) B1.out ne_ (.int .i64 o0)) ne_ (.int .i64 o1)) ne_ (.int .i64 o2)); have q2_ := Aside0.mk (blk_put (cs' := #[.int .i64 o0, .int .i64 o1, .int .i64 o2]) (blk_put (cs' := #[.int .i64 o0, .int .i64 o1, .int .i64 0]) (blk_put (cs' := #[.int .i64 o0, .int .i64 0, .int .i64 0]) B2.out 0 (.int .i64 o0) rfl) 1 (.int .i64 o1) rfl) 2 (.int .i64 o2) rfl); have q3_ : Aside0 (Below w.heap.size w (((w5.setCell ⟨g2, 0, none⟩ (.int .i64 o0)).setCell ⟨g2, 1, none⟩ (.int .i64 o1)).setCell ⟨g2, 2, none⟩ (.int .i64 o2))) := Aside0.mk (below_set (below_set (below_set HB.out G2.out) G2.out) G2.out); clear B1 B2 HB ne_ s0 sf0 s1 sf1 s2 sf2; generalize (((w5.setCell ⟨g2, 0, none⟩ (.int .i64 o0)).setCell ⟨g2, 1, none⟩ (.int .i64 o1)).setCell ⟨g2, 2, none⟩ (.int .i64 o2)) = w6 at q1_ q2_ q3_ ⊢; have B1 := q1_; have B2 := q2_; have HB := q3_; clear q1_ q2_ q3_; refine box_event ?hg (N := 13) ?hd (cs := (List.replicate 13 (Value.int .u8 0)).toArray) (t := 65) ?hr ?_; (case hd => rfl); (case hg => rfl); (case hr => first | (go_simp; done) | (go_simp; rfl)); intro g3 hg w7 hbox hb; have G3 := Aside0.mk (by rw [hg]; exact (below_size (by repeat (first | (with_reducible first | exact HB.out | apply below_alloc | apply pw_below_drewN | apply below_drew1 | refine below_set ?_ G1.out) | exact HB.out))) : w.heap.size ≤ g3); have L13 := Aside0.mk (by rw [hg]; exact blk_lt (by (with_reducible repeat (first | refine blk_drewN ?_ _ | refine blk_drew ?_ | refine blk_alloc ?_ _)); exact B1.out) : g1 < g3); have L23 := Aside0.mk (by rw [hg]; exact blk_lt (by (with_reducible repeat (first | refine blk_drewN ?_ _ | refine blk_drew ?_ | refine blk_alloc ?_ _)); exact B2.out) : g2 < g3); have p_ := Aside0.mk hbox; have m_ := Aside0.mk (below_step (by repeat (first | (with_reducible first | exact HB.out | apply below_alloc | apply pw_below_drewN | apply below_drew1 | refine below_set ?_ G1.out) | exact HB.out)) hb); have n1_ := Aside0.mk (blk_below (g := g1) (o := .cells #[.int .i64 0, .int .i64 0, .int .i64 0] 40 (0, 0)) (by (with_reducible repeat (first | refine blk_drewN ?_ _ | refine blk_drew ?_ | refine blk_alloc ?_ _)); exact B1.out) hb); have n2_ := Aside0.mk (blk_below (g := g2) (o := .cells #[.int .i64 o0, .int .i64 o1, .int .i64 o2] 40 (0, 0)) (by (with_reducible repeat (first | refine blk_drewN ?_ _ | refine blk_drew ?_ | refine blk_alloc ?_ _)); exact B2.out) hb); clear HB B1 B2; have HB := m_; have B1 := n1_; have B2 := n2_; clear m_ n1_ n2_; clear hb; have B3 := p_; clear p_ hbox hg)
    | ((with_reducible refine gate_builtin (b := .copy) (xs := #[.tmp 59, .tmp 60]) rfl ?_); refine wpList_copy_splice rfl (.tmp 59) (.tmp 60) 36 36 rfl 5 Try.underlying36 (by kernel_rfl) (some ⟨g3, 0, none⟩) (some ad) 13 13 17 c0 rfl rfl g3 0 (List.replicate 13 (Value.int .u8 0)) 65 B3.out [.int .u8 y0, .int .u8 y1, .int .u8 y2, .int .u8 y3, .int .u8 y4, .int .u8 y5, .int .u8 y6, .int .u8 y7, .int .u8 y8, .int .u8 y9, .int .u8 y10, .int .u8 y11, .int .u8 y12] rfl (fun _ => ⟨rfl, ad, rfl, HCE.out _ (by repeat (first | (with_reducible first | exact HB.out | apply below_alloc | apply pw_below_drewN | apply below_drew1 | refine below_set ?_ G1.out) | exact HB.out))⟩) (by simp) (by simp [Value.oneCell']) g3 w7 (Below.refl _ _) (Nat.le_refl _) ?_; intro w8 hg7 hb7; have n1_ : Aside0 (w8.heap[g1]? = some (.cells #[.int .i64 0, .int .i64 0, .int .i64 0] 40 (0, 0))) := ⟨(hb7.block g1 L13.out).trans B1.out⟩; have n2_ : Aside0 (w8.heap[g2]? = some (.cells #[.int .i64 o0, .int .i64 o1, .int .i64 o2] 40 (0, 0))) := ⟨(hb7.block g2 L23.out).trans B2.out⟩; have n3_ : Aside0 (w8.heap[g3]? = some (.cells ([.int .u8 y0, .int .u8 y1, .int .u8 y2, .int .u8 y3, .int .u8 y4, .int .u8 y5, .int .u8 y6, .int .u8 y7, .int .u8 y8, .int .u8 y9, .int .u8 y10, .int .u8 y11, .int .u8 y12] : List Value).toArray 65 (0, 0))) := ⟨hg7.out⟩; have n4_ : Aside0 (Below w.heap.size w w8) := ⟨HB.out.trans (hb7.mono G3.out)⟩; clear B1 B2 B3 HB hb7 hg7; have B1 := n1_; have B2 := n2_; have B4 := n3_; have HB := n4_; clear n1_ n2_ n3_ n4_))
  have t0 : w8.cell? ⟨g2, 0, none⟩ = some (.int .i64 o0) := (blk_cell B2.out 0).trans rfl
  have t1 : w8.cell? ⟨g2, 1, none⟩ = some (.int .i64 o1) := (blk_cell B2.out 1).trans rfl
  have t2 : w8.cell? ⟨g2, 2, none⟩ = some (.int .i64 o2) := (blk_cell B2.out 2).trans rfl
  have b0 : w8.cell? ⟨g3, 0, none⟩ = some (.int .u8 y0) := (blk_cell B4.out 0).trans rfl
  have b1 : w8.cell? ⟨g3, 1, none⟩ = some (.int .u8 y1) := (blk_cell B4.out 1).trans rfl
  have b2 : w8.cell? ⟨g3, 2, none⟩ = some (.int .u8 y2) := (blk_cell B4.out 2).trans rfl
  have b3 : w8.cell? ⟨g3, 3, none⟩ = some (.int .u8 y3) := (blk_cell B4.out 3).trans rfl
  have b4 : w8.cell? ⟨g3, 4, none⟩ = some (.int .u8 y4) := (blk_cell B4.out 4).trans rfl
  have b5 : w8.cell? ⟨g3, 5, none⟩ = some (.int .u8 y5) := (blk_cell B4.out 5).trans rfl
  have b6 : w8.cell? ⟨g3, 6, none⟩ = some (.int .u8 y6) := (blk_cell B4.out 6).trans rfl
  have b7 : w8.cell? ⟨g3, 7, none⟩ = some (.int .u8 y7) := (blk_cell B4.out 7).trans rfl
  have b8 : w8.cell? ⟨g3, 8, none⟩ = some (.int .u8 y8) := (blk_cell B4.out 8).trans rfl
  have b9 : w8.cell? ⟨g3, 9, none⟩ = some (.int .u8 y9) := (blk_cell B4.out 9).trans rfl
  have b10 : w8.cell? ⟨g3, 10, none⟩ = some (.int .u8 y10) := (blk_cell B4.out 10).trans rfl
  have b11 : w8.cell? ⟨g3, 11, none⟩ = some (.int .u8 y11) := (blk_cell B4.out 11).trans rfl
  have b12 : w8.cell? ⟨g3, 12, none⟩ = some (.int .u8 y12) := (blk_cell B4.out 12).trans rfl
  go_region_law (first
    | (refine goes_ (f := 30) Try.func30 (by kernel_rfl) rfl #[.agg #[.int .i64 o0, .int .i64 o1, .int .i64 o2]] (by rfl) rfl rfl (by simp only [List.map_toArray, List.map_cons, List.map_nil]; rfl) ?_; (with_reducible refine (oob_Right.calls o0 o1 o2 true _ HRT.out).mono ?_); rintro e wa ⟨rfl, hb⟩; refine ⟨_, rfl, ?_⟩; clear t0 t1 t2 b0 b1 b2 b3 b4 b5 b6 b7 b8 b9 b10 b11 b12; have m_ := Aside0.mk (below_step (by repeat (first | (with_reducible first | exact HB.out | apply below_alloc | apply pw_below_drewN | apply below_drew1 | refine below_set ?_ G1.out) | exact HB.out)) hb); have n1_ := Aside0.mk (blk_below (g := g1) (o := .cells #[.int .i64 0, .int .i64 0, .int .i64 0] 40 (0, 0)) (by (with_reducible repeat (first | refine blk_drewN ?_ _ | refine blk_drew ?_ | refine blk_alloc ?_ _)); exact B1.out) hb); have n2_ := Aside0.mk (blk_below (g := g2) (o := .cells #[.int .i64 o0, .int .i64 o1, .int .i64 o2] 40 (0, 0)) (by (with_reducible repeat (first | refine blk_drewN ?_ _ | refine blk_drew ?_ | refine blk_alloc ?_ _)); exact B2.out) hb); have n4_ := Aside0.mk (blk_below (g := g3) (o := .cells ([.int .u8 y0, .int .u8 y1, .int .u8 y2, .int .u8 y3, .int .u8 y4, .int .u8 y5, .int .u8 y6, .int .u8 y7, .int .u8 y8, .int .u8 y9, .int .u8 y10, .int .u8 y11, .int .u8 y12] : List Value).toArray 65 (0, 0)) (by (with_reducible repeat (first | refine blk_drewN ?_ _ | refine blk_drew ?_ | refine blk_alloc ?_ _)); exact B4.out) hb); clear HB B1 B2 B4; have HB := m_; have B1 := n1_; have B2 := n2_; have B4 := n4_; clear m_ n1_ n2_ n4_; clear hb; have t0 : wa.cell? ⟨g2, 0, none⟩ = some (.int .i64 o0) := (blk_cell B2.out 0).trans rfl; have t1 : wa.cell? ⟨g2, 1, none⟩ = some (.int .i64 o1) := (blk_cell B2.out 1).trans rfl; have t2 : wa.cell? ⟨g2, 2, none⟩ = some (.int .i64 o2) := (blk_cell B2.out 2).trans rfl; have b0 : wa.cell? ⟨g3, 0, none⟩ = some (.int .u8 y0) := (blk_cell B4.out 0).trans rfl; have b1 : wa.cell? ⟨g3, 1, none⟩ = some (.int .u8 y1) := (blk_cell B4.out 1).trans rfl; have b2 : wa.cell? ⟨g3, 2, none⟩ = some (.int .u8 y2) := (blk_cell B4.out 2).trans rfl; have b3 : wa.cell? ⟨g3, 3, none⟩ = some (.int .u8 y3) := (blk_cell B4.out 3).trans rfl; have b4 : wa.cell? ⟨g3, 4, none⟩ = some (.int .u8 y4) := (blk_cell B4.out 4).trans rfl; have b5 : wa.cell? ⟨g3, 5, none⟩ = some (.int .u8 y5) := (blk_cell B4.out 5).trans rfl; have b6 : wa.cell? ⟨g3, 6, none⟩ = some (.int .u8 y6) := (blk_cell B4.out 6).trans rfl; have b7 : wa.cell? ⟨g3, 7, none⟩ = some (.int .u8 y7) := (blk_cell B4.out 7).trans rfl; have b8 : wa.cell? ⟨g3, 8, none⟩ = some (.int .u8 y8) := (blk_cell B4.out 8).trans rfl; have b9 : wa.cell? ⟨g3, 9, none⟩ = some (.int .u8 y9) := (blk_cell B4.out 9).trans rfl; have b10 : wa.cell? ⟨g3, 10, none⟩ = some (.int .u8 y10) := (blk_cell B4.out 10).trans rfl; have b11 : wa.cell? ⟨g3, 11, none⟩ = some (.int .u8 y11) := (blk_cell B4.out 11).trans rfl; have b12 : wa.cell? ⟨g3, 12, none⟩ = some (.int .u8 y12) := (blk_cell B4.out 12).trans rfl)
    | (refine goes_ (f := 31) Try.func31 (by kernel_rfl) rfl #[.agg #[.int .i64 o0, .int .i64 o1, .int .i64 o2]] (by rfl) rfl rfl (by simp only [List.map_toArray, List.map_cons, List.map_nil]; rfl) ?_; (with_reducible refine (HLD.out _).mono ?_); rintro e wb ⟨rfl, hb⟩; refine ⟨_, rfl, ?_⟩; clear t0 t1 t2 b0 b1 b2 b3 b4 b5 b6 b7 b8 b9 b10 b11 b12; have m_ := Aside0.mk (below_step (by repeat (first | (with_reducible first | exact HB.out | apply below_alloc | apply pw_below_drewN | apply below_drew1 | refine below_set ?_ G1.out) | exact HB.out)) hb); have n1_ := Aside0.mk (blk_below (g := g1) (o := .cells #[.int .i64 0, .int .i64 0, .int .i64 0] 40 (0, 0)) (by (with_reducible repeat (first | refine blk_drewN ?_ _ | refine blk_drew ?_ | refine blk_alloc ?_ _)); exact B1.out) hb); have n2_ := Aside0.mk (blk_below (g := g2) (o := .cells #[.int .i64 o0, .int .i64 o1, .int .i64 o2] 40 (0, 0)) (by (with_reducible repeat (first | refine blk_drewN ?_ _ | refine blk_drew ?_ | refine blk_alloc ?_ _)); exact B2.out) hb); have n4_ := Aside0.mk (blk_below (g := g3) (o := .cells ([.int .u8 y0, .int .u8 y1, .int .u8 y2, .int .u8 y3, .int .u8 y4, .int .u8 y5, .int .u8 y6, .int .u8 y7, .int .u8 y8, .int .u8 y9, .int .u8 y10, .int .u8 y11, .int .u8 y12] : List Value).toArray 65 (0, 0)) (by (with_reducible repeat (first | refine blk_drewN ?_ _ | refine blk_drew ?_ | refine blk_alloc ?_ _)); exact B4.out) hb); clear HB B1 B2 B4; have HB := m_; have B1 := n1_; have B2 := n2_; have B4 := n4_; clear m_ n1_ n2_ n4_; clear hb; have t0 : wb.cell? ⟨g2, 0, none⟩ = some (.int .i64 o0) := (blk_cell B2.out 0).trans rfl; have t1 : wb.cell? ⟨g2, 1, none⟩ = some (.int .i64 o1) := (blk_cell B2.out 1).trans rfl; have t2 : wb.cell? ⟨g2, 2, none⟩ = some (.int .i64 o2) := (blk_cell B2.out 2).trans rfl; have b0 : wb.cell? ⟨g3, 0, none⟩ = some (.int .u8 y0) := (blk_cell B4.out 0).trans rfl; have b1 : wb.cell? ⟨g3, 1, none⟩ = some (.int .u8 y1) := (blk_cell B4.out 1).trans rfl; have b2 : wb.cell? ⟨g3, 2, none⟩ = some (.int .u8 y2) := (blk_cell B4.out 2).trans rfl; have b3 : wb.cell? ⟨g3, 3, none⟩ = some (.int .u8 y3) := (blk_cell B4.out 3).trans rfl; have b4 : wb.cell? ⟨g3, 4, none⟩ = some (.int .u8 y4) := (blk_cell B4.out 4).trans rfl; have b5 : wb.cell? ⟨g3, 5, none⟩ = some (.int .u8 y5) := (blk_cell B4.out 5).trans rfl; have b6 : wb.cell? ⟨g3, 6, none⟩ = some (.int .u8 y6) := (blk_cell B4.out 6).trans rfl; have b7 : wb.cell? ⟨g3, 7, none⟩ = some (.int .u8 y7) := (blk_cell B4.out 7).trans rfl; have b8 : wb.cell? ⟨g3, 8, none⟩ = some (.int .u8 y8) := (blk_cell B4.out 8).trans rfl; have b9 : wb.cell? ⟨g3, 9, none⟩ = some (.int .u8 y9) := (blk_cell B4.out 9).trans rfl; have b10 : wb.cell? ⟨g3, 10, none⟩ = some (.int .u8 y10) := (blk_cell B4.out 10).trans rfl; have b11 : wb.cell? ⟨g3, 11, none⟩ = some (.int .u8 y11) := (blk_cell B4.out 11).trans rfl; have b12 : wb.cell? ⟨g3, 12, none⟩ = some (.int .u8 y12) := (blk_cell B4.out 12).trans rfl))
  all_goals
    clear t0 t1 t2
    go_wp2_with (first
    | ((with_reducible refine gate_dst (N := 75) rfl ?_); refine goesL_ (some 75) rfl rfl Try.func29 (by kernel_rfl) rfl #[.slice (some ⟨ad.block, ad.off + 13, none⟩) 4 (c0 - 13)] rfl (by (try simp only [List.map_toArray, List.map_cons, List.map_nil]); first | done | rfl) ?_; (with_reducible refine (unpack_take_len 13 4 ad c0 l0 u1 e4 _ HLN.out (by decide) rfl ?side1 HC0.out T4.out).mono ?_); (case side1 => exact (Kd.C_below HR0.out (by repeat (first | (with_reducible first | exact HB.out | apply below_alloc | apply pw_below_drewN | apply below_drew1 | refine below_set ?_ G1.out | refine below_set ?_ G2.out) | exact HB.out)))); rintro e wc ⟨rfl, hd_⟩; have hb := drawn_below hd_; clear hd_; refine ⟨_, rfl, ?_⟩; have m_ := Aside0.mk (below_step (by repeat (first | (with_reducible first | exact HB.out | apply below_alloc | apply pw_below_drewN | apply below_drew1 | refine below_set ?_ G1.out | refine below_set ?_ G2.out) | exact HB.out)) hb); have n1_ := Aside0.mk (blk_below (g := g1) (o := .cells #[.int .i64 0, .int .i64 0, .int .i64 0] 40 (0, 0)) (by (with_reducible repeat (first | refine blk_drewN ?_ _ | refine blk_drew ?_ | refine blk_alloc ?_ _)); exact B1.out) hb); have n2_ := Aside0.mk (blk_below (g := g2) (o := .cells #[.int .i64 o0, .int .i64 o1, .int .i64 o2] 40 (0, 0)) (by (with_reducible repeat (first | refine blk_drewN ?_ _ | refine blk_drew ?_ | refine blk_alloc ?_ _)); exact B2.out) hb); clear HB B1 B2; have HB := m_; have B1 := n1_; have B2 := n2_; clear m_ n1_ n2_; clear hb)
    | ((with_reducible refine gate_dst (N := 81) rfl ?_); refine goesL_ (some 81) rfl rfl Try.func33 (by kernel_rfl) rfl #[.slice (some ad) 13 c0] rfl (by (try simp only [List.map_toArray, List.map_cons, List.map_nil]); first | done | rfl) ?_; (with_reducible refine (unpack_sum_pre 13 k ad l0 s1 _ HLN.out (by decide) ?side1 c0 HC0.out HS.out).mono ?_); (case side1 => exact (Kd.C_below HR0.out (by repeat (first | (with_reducible first | exact HB.out | apply below_alloc | apply pw_below_drewN | apply below_drew1 | refine below_set ?_ G1.out) | exact HB.out)))); rintro e wd ⟨rfl, hd_⟩; have hb := drawn_below hd_; clear hd_; refine ⟨_, rfl, ?_⟩; have m_ := Aside0.mk (below_step (by repeat (first | (with_reducible first | exact HB.out | apply below_alloc | apply pw_below_drewN | apply below_drew1 | refine below_set ?_ G1.out) | exact HB.out)) hb); have n1_ := Aside0.mk (blk_below (g := g1) (o := .cells #[.int .i64 0, .int .i64 0, .int .i64 0] 40 (0, 0)) (by (with_reducible repeat (first | refine blk_drewN ?_ _ | refine blk_drew ?_ | refine blk_alloc ?_ _)); exact B1.out) hb); have n2_ := Aside0.mk (blk_below (g := g2) (o := .cells #[.int .i64 o0, .int .i64 o1, .int .i64 o2] 40 (0, 0)) (by (with_reducible repeat (first | refine blk_drewN ?_ _ | refine blk_drew ?_ | refine blk_alloc ?_ _)); exact B2.out) hb); clear HB B1 B2; have HB := m_; have B1 := n1_; have B2 := n2_; clear m_ n1_ n2_; clear hb)
    | ((with_reducible refine gate_dst (N := 83) rfl ?_); refine goesL_ (some 83) rfl rfl Try.func32 (by kernel_rfl) rfl #[.int .u32 s1, .slice A1 16 c1] rfl (by (try simp only [List.map_toArray, List.map_cons, List.map_nil]); first | done | rfl) ?_; (with_reducible refine (unpack_add_len k s1 _ _ u1 _ HLM.out ?side1 c1 HC1.out HA.out).mono ?_); (case side1 => exact (Kd.C_below HR1.out (by repeat (first | (with_reducible first | exact HB.out | apply below_alloc | apply pw_below_drewN | apply below_drew1 | refine below_set ?_ G1.out) | exact HB.out)))); rintro e we ⟨rfl, hd_⟩; have hb := drawn_below hd_; clear hd_; refine ⟨_, rfl, ?_⟩; have m_ := Aside0.mk (below_step (by repeat (first | (with_reducible first | exact HB.out | apply below_alloc | apply pw_below_drewN | apply below_drew1 | refine below_set ?_ G1.out) | exact HB.out)) hb); have n1_ := Aside0.mk (blk_below (g := g1) (o := .cells #[.int .i64 0, .int .i64 0, .int .i64 0] 40 (0, 0)) (by (with_reducible repeat (first | refine blk_drewN ?_ _ | refine blk_drew ?_ | refine blk_alloc ?_ _)); exact B1.out) hb); have n2_ := Aside0.mk (blk_below (g := g2) (o := .cells #[.int .i64 o0, .int .i64 o1, .int .i64 o2] 40 (0, 0)) (by (with_reducible repeat (first | refine blk_drewN ?_ _ | refine blk_drew ?_ | refine blk_alloc ?_ _)); exact B2.out) hb); clear HB B1 B2; have HB := m_; have B1 := n1_; have B2 := n2_; clear m_ n1_ n2_; clear hb; have t0 : we.cell? ⟨g2, 0, none⟩ = some (.int .i64 o0) := (blk_cell B2.out 0).trans rfl; have t1 : we.cell? ⟨g2, 1, none⟩ = some (.int .i64 o1) := (blk_cell B2.out 1).trans rfl; have t2 : we.cell? ⟨g2, 2, none⟩ = some (.int .i64 o2) := (blk_cell B2.out 2).trans rfl; have z0 : we.cell? ⟨g1, 0, none⟩ = some (.int .i64 0) := (blk_cell B1.out 0).trans rfl; have zf0 := blk_frozen B1.out 0; have z1 : we.cell? ⟨g1, 1, none⟩ = some (.int .i64 0) := (blk_cell B1.out 1).trans rfl; have zf1 := blk_frozen B1.out 1; have z2 : we.cell? ⟨g1, 2, none⟩ = some (.int .i64 0) := (blk_cell B1.out 2).trans rfl; have zf2 := blk_frozen B1.out 2))
    refine bodyPost_ret (results_ct rfl _ _ g1 40 #[.int .i64 o0, .int .i64 o1, .int .i64 o2] (0, 0) _ rfl (by (with_reducible repeat (first | refine blk_drewN ?_ _ | refine blk_drew ?_ | refine blk_alloc ?_ _)); refine blk_put (cs := #[.int .i64 o0, .int .i64 o1, .int .i64 0]) ?_ 2 _ rfl; (with_reducible repeat (first | refine blk_drewN ?_ _ | refine blk_drew ?_ | refine blk_alloc ?_ _)); refine blk_put (cs := #[.int .i64 o0, .int .i64 0, .int .i64 0]) ?_ 1 _ rfl; (with_reducible repeat (first | refine blk_drewN ?_ _ | refine blk_drew ?_ | refine blk_alloc ?_ _)); refine blk_put (cs := #[.int .i64 0, .int .i64 0, .int .i64 0]) ?_ 0 _ rfl; (with_reducible repeat (first | refine blk_drewN ?_ _ | refine blk_drew ?_ | refine blk_alloc ?_ _)); exact B1.out) Try.underlying40 rfl (by kernel_rfl)) rfl ?_
    exact ⟨rfl, by repeat (first | (with_reducible first | exact HB.out | apply below_alloc | apply pw_below_drewN | apply below_drew1 | refine below_set ?_ G1.out) | exact HB.out)⟩
set_option maxHeartbeats 2000000 in
set_option maxRecDepth 100000 in
theorem oob_unpack_n0 (A0 A1 : Option Addr) (n0 c0 n1 c1 : Nat) (w : World) (h : ¬ n0 = 17) :
    Calls Try.prog 18 #[.slice A0 n0 c0, .slice A1 n1 c1] w fun e w' => e = .returned (.tuple #[.agg #[.int .i64 0, .int .i64 0, .int .i64 0], .int .i64 3]) ∧ Below w.heap.size w w' := by
  have h9 : ¬ ((n0 : Int) = 17) := by omega
  have hd : ((n0 : Int) != 17) = true := bne_iff_ne.mpr h9
  clear h9 h
  have hu40 := Try.underlying40
  have HB := Aside0.mk (Below.refl w.heap.size w)
  go_enter Try.func18, Try.ntmps18
  go_wp2_with (first
    | ((with_reducible refine gate_dst (N := 4) rfl ?_); refine box_event ?hg (N := 4) ?hd (cs := #[.int .i64 0, .int .i64 0, .int .i64 0]) (t := 40) ?hr ?_; (case hd => rfl); (case hg => rfl); (case hr => first | (go_simp; done) | (go_simp; rfl)); intro g1 hg w1 hbox hb; have G1 := Aside0.mk (by rw [hg]; exact (below_size (by repeat (first | (with_reducible first | exact HB.out | apply below_alloc | apply pw_below_drewN | apply below_drew1) | exact HB.out))) : w.heap.size ≤ g1); have p_ := Aside0.mk hbox; have m_ := Aside0.mk (below_step (by repeat (first | (with_reducible first | exact HB.out | apply below_alloc | apply pw_below_drewN | apply below_drew1) | exact HB.out)) hb); clear HB; have HB := m_; clear m_; clear hb; have B1 := p_; clear p_ hbox hg; have z0 : w1.cell? ⟨g1, 0, none⟩ = some (.int .i64 0) := (blk_cell B1.out 0).trans rfl; have zf0 := blk_frozen B1.out 0; have z1 : w1.cell? ⟨g1, 1, none⟩ = some (.int .i64 0) := (blk_cell B1.out 1).trans rfl; have zf1 := blk_frozen B1.out 1; have z2 : w1.cell? ⟨g1, 2, none⟩ = some (.int .i64 0) := (blk_cell B1.out 2).trans rfl; have zf2 := blk_frozen B1.out 2))
  refine bodyPost_ret (results_ct rfl _ _ g1 40 #[.int .i64 0, .int .i64 0, .int .i64 0] (0, 0) _ rfl (by (with_reducible repeat (first | refine blk_drewN ?_ _ | refine blk_drew ?_ | refine blk_alloc ?_ _)); refine blk_put (cs := #[.int .i64 0, .int .i64 0, .int .i64 0]) ?_ 2 _ rfl; (with_reducible repeat (first | refine blk_drewN ?_ _ | refine blk_drew ?_ | refine blk_alloc ?_ _)); refine blk_put (cs := #[.int .i64 0, .int .i64 0, .int .i64 0]) ?_ 1 _ rfl; (with_reducible repeat (first | refine blk_drewN ?_ _ | refine blk_drew ?_ | refine blk_alloc ?_ _)); refine blk_put (cs := #[.int .i64 0, .int .i64 0, .int .i64 0]) ?_ 0 _ rfl; (with_reducible repeat (first | refine blk_drewN ?_ _ | refine blk_drew ?_ | refine blk_alloc ?_ _)); exact B1.out) Try.underlying40 rfl (by kernel_rfl)) rfl ?_
  exact ⟨rfl, by repeat (first | (with_reducible first | exact HB.out | apply below_alloc | apply pw_below_drewN | apply below_drew1 | refine below_set ?_ G1.out) | exact HB.out)⟩
set_option maxHeartbeats 2000000 in
set_option maxRecDepth 100000 in
theorem oob_unpack_n1 (A0 A1 : Option Addr) (c0 n1 c1 : Nat) (w : World) (h : ¬ n1 = 16) :
    Calls Try.prog 18 #[.slice A0 17 c0, .slice A1 n1 c1] w fun e w' => e = .returned (.tuple #[.agg #[.int .i64 0, .int .i64 0, .int .i64 0], .int .i64 3]) ∧ Below w.heap.size w w' := by
  have h9 : ¬ ((n1 : Int) = 16) := by omega
  have hd : ((n1 : Int) != 16) = true := bne_iff_ne.mpr h9
  clear h9 h
  have hu40 := Try.underlying40
  have HB := Aside0.mk (Below.refl w.heap.size w)
  go_enter Try.func18, Try.ntmps18
  go_wp2_with (first
    | ((with_reducible refine gate_dst (N := 4) rfl ?_); refine box_event ?hg (N := 4) ?hd (cs := #[.int .i64 0, .int .i64 0, .int .i64 0]) (t := 40) ?hr ?_; (case hd => rfl); (case hg => rfl); (case hr => first | (go_simp; done) | (go_simp; rfl)); intro g1 hg w1 hbox hb; have G1 := Aside0.mk (by rw [hg]; exact (below_size (by repeat (first | (with_reducible first | exact HB.out | apply below_alloc | apply pw_below_drewN | apply below_drew1) | exact HB.out))) : w.heap.size ≤ g1); have p_ := Aside0.mk hbox; have m_ := Aside0.mk (below_step (by repeat (first | (with_reducible first | exact HB.out | apply below_alloc | apply pw_below_drewN | apply below_drew1) | exact HB.out)) hb); clear HB; have HB := m_; clear m_; clear hb; have B1 := p_; clear p_ hbox hg; have z0 : w1.cell? ⟨g1, 0, none⟩ = some (.int .i64 0) := (blk_cell B1.out 0).trans rfl; have zf0 := blk_frozen B1.out 0; have z1 : w1.cell? ⟨g1, 1, none⟩ = some (.int .i64 0) := (blk_cell B1.out 1).trans rfl; have zf1 := blk_frozen B1.out 1; have z2 : w1.cell? ⟨g1, 2, none⟩ = some (.int .i64 0) := (blk_cell B1.out 2).trans rfl; have zf2 := blk_frozen B1.out 2))
  refine bodyPost_ret (results_ct rfl _ _ g1 40 #[.int .i64 0, .int .i64 0, .int .i64 0] (0, 0) _ rfl (by (with_reducible repeat (first | refine blk_drewN ?_ _ | refine blk_drew ?_ | refine blk_alloc ?_ _)); refine blk_put (cs := #[.int .i64 0, .int .i64 0, .int .i64 0]) ?_ 2 _ rfl; (with_reducible repeat (first | refine blk_drewN ?_ _ | refine blk_drew ?_ | refine blk_alloc ?_ _)); refine blk_put (cs := #[.int .i64 0, .int .i64 0, .int .i64 0]) ?_ 1 _ rfl; (with_reducible repeat (first | refine blk_drewN ?_ _ | refine blk_drew ?_ | refine blk_alloc ?_ _)); refine blk_put (cs := #[.int .i64 0, .int .i64 0, .int .i64 0]) ?_ 0 _ rfl; (with_reducible repeat (first | refine blk_drewN ?_ _ | refine blk_drew ?_ | refine blk_alloc ?_ _)); exact B1.out) Try.underlying40 rfl (by kernel_rfl)) rfl ?_
  exact ⟨rfl, by repeat (first | (with_reducible first | exact HB.out | apply below_alloc | apply pw_below_drewN | apply below_drew1 | refine below_set ?_ G1.out) | exact HB.out)⟩
def oob_Unpack.f (k : Nat) (l0 l1 : List Int) : Option (Int × Int × Int × Int) :=
  if l0.length = 17 then (if l1.length = 16 then
    ((wire_TakeFixed.f (l0.drop 1)).bind fun p => (wire_TakeFixed.f (l0.drop 5)).bind fun q => (wire_TakeFixed.f (l0.drop 9)).bind fun s =>
      if s.1 ≤ 262144 then
        ((oob_Right.f (wrap64 (rd l0 0)) (wrap64 p.1) (Go.bits .or .i64 (wrap64 (wrap64 s.1 * 4294967296)) (wrap64 q.1))).bind fun b =>
          if b = true then
            (if l0.take 13 = oob_laidL (wrap64 (rd l0 0)) (wrap64 p.1) (Go.bits .or .i64 (wrap64 (wrap64 s.1 * 4294967296)) (wrap64 q.1)) then
              ((wire_TakeFixed.f (l0.drop 13)).bind fun z => (crc_Sum.f k (l0.take 13)).bind fun u => (crc_Add.f k u l1).bind fun v =>
                if z.1 = v then some (wrap64 (rd l0 0), wrap64 p.1, Go.bits .or .i64 (wrap64 (wrap64 s.1 * 4294967296)) (wrap64 q.1), 0) else some (0, 0, 0, 4))
            else some (0, 0, 0, 3))
          else some (0, 0, 0, 3))
      else some (0, 0, 0, 3))
    else some (0, 0, 0, 3)) else some (0, 0, 0, 3)
theorem oob_Unpack.mono : ∀ a0 a1 k, LeO (oob_Unpack.f k a0 a1) (oob_Unpack.f (k + 1) a0 a1) := by
  intro a0 a1 k r h
  unfold oob_Unpack.f at h ⊢
  split at h
  · rename_i c
    rw [if_pos c]
    split at h
    · rename_i c1
      rw [if_pos c1]
      obtain ⟨p, hp, h⟩ := Option.bind_eq_some_iff.mp h
      obtain ⟨q, hq, h⟩ := Option.bind_eq_some_iff.mp h
      obtain ⟨s, hs, h⟩ := Option.bind_eq_some_iff.mp h
      rw [hp, Option.bind_some, hq, Option.bind_some, hs, Option.bind_some]
      split at h
      · rename_i c2
        rw [if_pos c2]
        obtain ⟨b, hb, h⟩ := Option.bind_eq_some_iff.mp h
        rw [hb, Option.bind_some]
        split at h
        · rename_i c3
          rw [if_pos c3]
          split at h
          · rename_i c4
            rw [if_pos c4]
            obtain ⟨z, hz, h⟩ := Option.bind_eq_some_iff.mp h
            obtain ⟨u, hu, h⟩ := Option.bind_eq_some_iff.mp h
            obtain ⟨v, hv, h⟩ := Option.bind_eq_some_iff.mp h
            rw [hz, Option.bind_some, crc_Sum.mono _ _ _ hu, Option.bind_some, crc_Add.mono _ _ _ _ hv, Option.bind_some]
            exact h
          · rename_i c4
            rw [if_neg c4]
            exact h
        · rename_i c3
          rw [if_neg c3]
          exact h
      · rename_i c2
        rw [if_neg c2]
        exact h
    · rename_i c1
      rw [if_neg c1]
      exact h
  · rename_i c
    rw [if_neg c]
    exact h
theorem take13 (l : List Int) (h : l.length = 17) : ∃ y0 y1 y2 y3 y4 y5 y6 y7 y8 y9 y10 y11 y12, l.take 13 = [y0, y1, y2, y3, y4, y5, y6, y7, y8, y9, y10, y11, y12] := by
  match l, h with
  | [y0, y1, y2, y3, y4, y5, y6, y7, y8, y9, y10, y11, y12, z13, z14, z15, z16], _ => exact ⟨_, _, _, _, _, _, _, _, _, _, _, _, _, rfl⟩
theorem oob_Unpack.calls (k : Nat) (A0 : Option Addr) (c0 : Nat) (l0 : List Int) (A1 : Option Addr) (c1 : Nat) (l1 : List Int) (r1 : Int) (r2 : Int) (r3 : Int) (r4 : Int) (w : World) (hr0 : Kd.C (Kd.int .u8) w A0 l0.length l0) (hc0 : l0.length ≤ c0) (hr1 : Kd.C (Kd.int .u8) w A1 l1.length l1) (hc1 : l1.length ≤ c1) (h : oob_Unpack.f k l0 l1 = some (r1, r2, r3, r4)) :
    Calls Try.prog 18 #[.slice A0 l0.length c0, .slice A1 l1.length c1] w fun e w' => e = .returned (.tuple #[.agg #[.int .i64 r1, .int .i64 r2, .int .i64 r3], .int .i64 r4]) ∧ Below w.heap.size w w' := by
  unfold oob_Unpack.f at h
  by_cases c : l0.length = 17
  · rw [if_pos c] at h
    by_cases c1' : l1.length = 16
    · rw [if_pos c1'] at h
      obtain ⟨p, hp, h⟩ := Option.bind_eq_some_iff.mp h
      obtain ⟨q, hq, h⟩ := Option.bind_eq_some_iff.mp h
      obtain ⟨s, hs, h⟩ := Option.bind_eq_some_iff.mp h
      obtain ⟨ad, rfl, _⟩ := (Kd.reads_of_C (enc := Value.int .u8) (d := (0 : Int)) (h1 := fun _ => rfl) hr0).2.2 (by omega)
      rw [c] at hr0 hc0 ⊢
      rw [c1'] at hr1 hc1 ⊢
      by_cases c2 : s.1 ≤ 262144
      · rw [if_pos c2] at h
        obtain ⟨b, hb, h⟩ := Option.bind_eq_some_iff.mp h
        obtain ⟨y0, y1, y2, y3, y4, y5, y6, y7, y8, y9, y10, y11, y12, hY⟩ := take13 l0 c
        have h0 : rd l0 0 = y0 := by
          have e : (l0.take 13)[0]? = some y0 := by rw [hY]; rfl
          rw [List.getElem?_take, if_pos (by decide)] at e
          simp [rd, List.getD_eq_getElem?_getD, e]
        rw [h0] at h hb
        cases b
        · rw [if_neg (by decide)] at h
          cases h
          exact oob_unpack_b k ad c0 l0 A1 c1 l1 p.1 p.2 q.1 q.2 s.1 s.2 _ _ _ y0 y1 y2 y3 y4 y5 y6 y7 y8 y9 y10 y11 y12 w hr0 hc0 hr1 hc1 c c1' hY hp hq hs c2 rfl rfl rfl hb
        · rw [if_pos rfl] at h
          by_cases c4 : l0.take 13 = oob_laidL (wrap64 y0) (wrap64 p.1) (Go.bits .or .i64 (wrap64 (wrap64 s.1 * 4294967296)) (wrap64 q.1))
          · rw [if_pos c4] at h
            obtain ⟨z, hz, h⟩ := Option.bind_eq_some_iff.mp h
            obtain ⟨u, hu, h⟩ := Option.bind_eq_some_iff.mp h
            obtain ⟨v, hv, h⟩ := Option.bind_eq_some_iff.mp h
            have hL : ∀ w, Calls Try.prog 31 #[.agg #[.int .i64 (wrap64 y0), .int .i64 (wrap64 p.1), .int .i64 (Go.bits .or .i64 (wrap64 (wrap64 s.1 * 4294967296)) (wrap64 q.1))]] w fun e w' => e = .returned (.agg #[.int .u8 y0, .int .u8 y1, .int .u8 y2, .int .u8 y3, .int .u8 y4, .int .u8 y5, .int .u8 y6, .int .u8 y7, .int .u8 y8, .int .u8 y9, .int .u8 y10, .int .u8 y11, .int .u8 y12]) ∧ Below w.heap.size w w' := fun w => by
              have e := oob_laid.walk (wrap64 y0) (wrap64 p.1) (Go.bits .or .i64 (wrap64 (wrap64 s.1 * 4294967296)) (wrap64 q.1)) w
              have e2 : (.agg ((oob_laidL (wrap64 y0) (wrap64 p.1) (Go.bits .or .i64 (wrap64 (wrap64 s.1 * 4294967296)) (wrap64 q.1))).map (Value.int .u8)).toArray : Value) = .agg #[.int .u8 y0, .int .u8 y1, .int .u8 y2, .int .u8 y3, .int .u8 y4, .int .u8 y5, .int .u8 y6, .int .u8 y7, .int .u8 y8, .int .u8 y9, .int .u8 y10, .int .u8 y11, .int .u8 y12] := by rw [← c4, hY]; rfl
              exact e.mono fun e w' he => ⟨he.1.trans (congrArg Ending.returned e2), he.2⟩
            by_cases c5 : z.1 = v
            · rw [if_pos c5] at h
              subst c5
              cases h
              exact oob_unpack_e k ad c0 l0 A1 c1 l1 p.1 p.2 q.1 q.2 s.1 s.2 _ _ _ y0 y1 y2 y3 y4 y5 y6 y7 y8 y9 y10 y11 y12 w hr0 hc0 hr1 hc1 c c1' hY hp hq hs c2 rfl rfl rfl hb hL z.2 u z.1 hz hu hv
            · rw [if_neg c5] at h
              cases h
              exact oob_unpack_d k ad c0 l0 A1 c1 l1 p.1 p.2 q.1 q.2 s.1 s.2 _ _ _ y0 y1 y2 y3 y4 y5 y6 y7 y8 y9 y10 y11 y12 w hr0 hc0 hr1 hc1 c c1' hY hp hq hs c2 rfl rfl rfl hb hL z.1 z.2 u v hz hu hv c5
          · rw [if_neg c4] at h
            cases h
            exact oob_unpack_c k ad c0 l0 A1 c1 l1 p.1 p.2 q.1 q.2 s.1 s.2 _ _ _ y0 y1 y2 y3 y4 y5 y6 y7 y8 y9 y10 y11 y12 w hr0 hc0 hr1 hc1 c c1' hY hp hq hs c2 rfl rfl rfl _ _ _ _ _ _ _ _ _ _ _ _ _ hb (fun w => oob_laid.walk _ _ _ w) (by rw [← hY]; exact c4)
      · rw [if_neg c2] at h
        cases h
        exact oob_unpack_a k ad c0 l0 A1 c1 l1 p.1 p.2 q.1 q.2 s.1 s.2 w hr0 hc0 hr1 hc1 c c1' hp hq hs c2
    · rw [if_neg c1'] at h
      cases h
      rw [c]
      exact oob_unpack_n1 A0 A1 c0 _ c1 w c1'
  · rw [if_neg c] at h
    cases h
    exact oob_unpack_n0 A0 A1 _ c0 _ c1 w c


/-! ### page_Read: function 16 -/
def page_Read.l0 : Nat → List (List Int) → List (List Int) → List (S42) → Int → Int → Option ((List (S42)))
 | 0, _, _, _, _, _ => none
 | k + 1,x0,x1,x5,x13,x14 => if x14 < x13 then (if 0 ≤ x14 then (if x14 < (x1.length : Int) then (if x14 < (x0.length : Int) then ((oob_Unpack.f k (rd_L2 x1 x14) (rd_L2 x0 x14)).bind fun bt152 => (if bt152.2.2.2 = 0 then (if bt152.1 = 3 then (page_Read.l0 k x0 x1 x5 x13 (wrap64 (x14 + 1))) else ((some (([] : List Int) : List Int)).bind fun y157 => (if y157.length + (rd_L2 x0 x14).length < 140737488355328 then (if x5.length < 2513169434916 then (page_Read.l0 k x0 x1 (x5 ++ [(⟨x14,(⟨bt152.1,bt152.2.1,bt152.2.2.1⟩ : S40),(y157 ++ (rd_L2 x0 x14))⟩ : S42)]) x13 (wrap64 (x14 + 1))) else (none)) else (none)))) else (page_Read.l0 k x0 x1 x5 x13 (wrap64 (x14 + 1))))) else (none)) else (none)) else (none)) else (some x5)
def page_Read.f (k : Nat) (l0 : List (List Int)) (l1 : List (List Int)) : Option ((List (S42))) := page_Read.l0 k l0 l1 ([] : List (S42)) (mn (l0.length : Int) (l1.length : Int)) 0
theorem page_Read.mono_l : ∀ k,(∀ y0 y1 y2 y3 y4,LeO (page_Read.l0 k y0 y1 y2 y3 y4) (page_Read.l0 (k + 1) y0 y1 y2 y3 y4))
 | 0 => fun _ _ _ _ _ r h => by simp [page_Read.l0] at h
 | k + 1 => by
  have ih0 := page_Read.mono_l k
  ·intro y0 y1 y2 y3 y4
   unfold page_Read.l0
   repeat' first
   | (with_reducible exact ih0 _ _ _ _ _)
   | (with_reducible exact oob_Unpack.mono _ _ _)
   | (with_reducible exact LeO.refl _)
   | (with_reducible exact LeO.none _)
   | (with_reducible refine LeO.ite ?_ ?_)
   | (with_reducible refine LeO.bind ?_ (fun _ => ?_))
   | exact ih0 _ _ _ _ _
   | exact oob_Unpack.mono _ _ _
   | exact LeO.none _
   | refine LeO.ite ?_ ?_
   | refine LeO.bind ?_ (fun _ => ?_)
theorem page_Read.mono : ∀ a0 a1 k, LeO (page_Read.f k a0 a1) (page_Read.f (k + 1) a0 a1) := by
 intro a0 a1 k
 have ih0 := page_Read.mono_l k
 unfold page_Read.f
 repeat' first
   | (with_reducible exact ih0 _ _ _ _ _)
   | (with_reducible exact oob_Unpack.mono _ _ _)
   | (with_reducible exact LeO.refl _)
   | (with_reducible exact LeO.none _)
   | (with_reducible refine LeO.ite ?_ ?_)
   | (with_reducible refine LeO.bind ?_ (fun _ => ?_))
   | exact ih0 _ _ _ _ _
   | exact oob_Unpack.mono _ _ _
   | exact LeO.none _
   | refine LeO.ite ?_ ?_
   | refine LeO.bind ?_ (fun _ => ?_)
def page_Read.T5 : Bool × List (List Nat × List Nat) := (true,[([],[]),([],[]),([0,1],[0,1]),([2],[2]),([],[]),([],[]),([4,5],[4,5]),([6],[6]),([3,7],[3,7]),([8],[8]),([9],[9]),([9],[9]),([],[]),([12,10,8,0,1,2,3,4,5,6,7,8,9,10,12],[10,12]),([11,13,0,1,2,3,4,5,6,7,8,9,10,11,12,13],[11])])
def page_Read.B5 : List Nat := [0, 0, 3, 7, 0, 0, 48, 112, 255, 511, 1023, 1023, 0, 6143, 16383]
theorem page_Read.tab5 : rtab .any (opsOf Try.f16 5) = page_Read.T5 := by kernel_rfl
theorem page_Read.bits5 : waitsOk page_Read.T5.2 page_Read.B5 = true := by kernel_rfl
def page_Read.T7 : Bool × List (List Nat × List Nat) := (true,[([],[]),([],[]),([],[]),([],[]),([],[]),([],[]),([4,5],[4,5]),([6],[6]),([3,7],[3,7]),([1,2,8],[1,2,8]),([9],[9]),([0,10,8],[0,10]),([11,11,0,1,2,3,4,5,6,7,8,9,10,11],[0,11])])
def page_Read.B7 : List Nat := [0, 0, 0, 0, 0, 0, 48, 112, 248, 510, 1022, 2047, 4095]
theorem page_Read.tab7 : rtab .any (opsOf Try.f16 7) = page_Read.T7 := by kernel_rfl
theorem page_Read.bits7 : waitsOk page_Read.T7.2 page_Read.B7 = true := by kernel_rfl
set_option maxHeartbeats 8000000 in
set_option maxRecDepth 100000 in
theorem page_Read.calls (k : Nat) (A0 : Option Addr) (c0 : Nat) (l0 : List (List Int)) (A1 : Option Addr) (c1 : Nat) (l1 : List (List Int)) (r : List (S42)) (w : World) (hr0 : Kd.C (Kd.slice 5 (Kd.int .u8)) w A0 l0.length l0) (hc0 : l0.length ≤ c0) (hr1 : Kd.C (Kd.slice 5 (Kd.int .u8)) w A1 l1.length l1) (hc1 : l1.length ≤ c1) (h : page_Read.f k l0 l1 = some r) :
  Calls Try.prog 16 #[.slice A0 l0.length c0,.slice A1 l1.length c1] w fun e w' => ∃ v0_ : Value,e = .returned (v0_) ∧ Kd.S k42 42 w' w.heap.size (fun _ => True) v0_ r ∧ Below w.heap.size w w' := by
 have hu40 := Try.underlying40
 have hu42 := Try.underlying42
 have HR0 := Aside0.mk hr0
 have HC0 := Aside0.mk hc0
 clear hr0 hc0
 have HR1 := Aside0.mk hr1
 have HC1 := Aside0.mk hc1
 clear hr1 hc1
 have HB := Aside0.mk (Below.refl w.heap.size w)
 have H : (page_Read.l0 k l0 l1 ([] : List (S42)) (mn (l0.length : Int) (l1.length : Int)) 0) = some r := h
 clear h
 obtain ⟨ji3, hji3⟩ : ∃ j_ : Int, (mn (l0.length : Int) (l1.length : Int)) = j_ := ⟨_, rfl⟩
 replace H : (page_Read.l0 k l0 l1 ([] : List (S42)) ji3 0) = some r := by first|(rw [hji3] at H;exact H)|(simp only [hji3] at H ⊢;exact H)
 (try (have hji3l : 0 ≤ ji3 := by (rw [← hji3]; unfold mn; (repeat' split) <;> omega)))
 (try (have hji3m : 0 ≤ ji3 := by omega))
 have hji3_ : (if (l1.length : Int) < (l0.length : Int) then (l1.length : Int) else (l0.length : Int)) = ji3 := hji3
 have hji3n : (if l1.length < l0.length then (l1.length : Int) else (l0.length : Int)) = ji3 := by have h_ := hji3_;simp only [Int.ofNat_lt] at h_;exact h_
 have H' := Aside0.mk H
 clear H
 go_enter Try.func16, Try.ntmps16
 go_wp2
 go_loopg [5,14] k (fun kq v5 v14 w' => ∃ (x5_1 : List (S42)) (x14_1 : Int),v14 = .int .i64 x14_1 ∧ Aside0 (page_Read.l0 kq l0 l1 x5_1 ji3 x14_1 = some r) ∧ Aside0 (kq ≤ k) ∧ Aside0 (Kd.S k42 42 w' w.heap.size (fun _ => True) v5 x5_1) ∧ Aside0 (Below w.heap.size w w'))
 case atStart => exact ⟨(([] : List (S42))),(0),(by first|rfl|(simp;done)|(simp [*];done)),H',⟨Nat.le_refl _⟩,⟨by first|exact Kd.S_nil _ _ _ _ _|exact Kd.N_nil _ _ _ _ _|exact Kd.V_nil _ _ _ _ _|exact Kd.Q_nil _ _ _ _ _|exact Kd.R_nil _ _ _ _ _⟩,⟨by repeat (first|(with_reducible first|exact HB.out|apply below_alloc|apply pw_below_drewN|apply below_drew1)|exact HB.out)⟩⟩
 case round =>
  clear H'
  try clear c1
  try clear p2
  obtain ⟨x5_1, x14_1, rfl, HA, HK1, HO_5, HB⟩ := hrel
  cases gk with
  | zero => exact absurd HA.out (by simp [page_Read.l0])
  | succ k1 =>
   have H := HA.out
   clear HA
   simp only [page_Read.l0] at H
   by_cases c4 : x14_1 < ji3
   ·rw [if_pos c4] at H
    have c4b0 : decide (x14_1 < ji3) = true := decide_eq_true c4
    clear c4
    by_cases c5 : 0 ≤ x14_1
    ·rw [if_pos c5] at H
     have c5b0 : decide (0 ≤ x14_1) = true := decide_eq_true c5
     clear c5
     by_cases c6 : x14_1 < (l1.length : Int)
     ·rw [if_pos c6] at H
      have c6b0 : decide (x14_1 < (l1.length : Int)) = true := decide_eq_true c6
      clear c6
      by_cases c7 : x14_1 < (l0.length : Int)
      ·rw [if_pos c7] at H
       have c7b0 : decide (x14_1 < (l0.length : Int)) = true := decide_eq_true c7
       clear c7
       replace H := Option.bind_eq_some_iff.mp H
       obtain ⟨⟨t152, t153, t154, t155⟩, A80, H⟩ := H
       replace H : (if t155 = 0 then (if t152 = 3 then (page_Read.l0 k1 l0 l1 x5_1 ji3 (wrap64 (x14_1 + 1))) else ((some (([] : List Int) : List Int)).bind fun y157 => (if y157.length + (rd_L2 l0 x14_1).length < 140737488355328 then (if x5_1.length < 2513169434916 then (page_Read.l0 k1 l0 l1 (x5_1 ++ [(⟨x14_1,(⟨t152,t153,t154⟩ : S40),(y157 ++ (rd_L2 l0 x14_1))⟩ : S42)]) ji3 (wrap64 (x14_1 + 1))) else (none)) else (none)))) else (page_Read.l0 k1 l0 l1 x5_1 ji3 (wrap64 (x14_1 + 1)))) = some r := H
       have A8 := Aside0.mk A80
       clear A80
       by_cases c9 : t155 = 0
       ·rw [if_pos c9] at H
        have c9b0 : (t155 == 0) = true := beq_iff_eq.mpr c9
        have c9b1 : (t155 != 0) = false := bne_eq_false_iff_eq.mpr c9
        clear c9
        by_cases c10 : t152 = 3
        ·rw [if_pos c10] at H
         have c10b0 : (t152 == 3) = true := beq_iff_eq.mpr c10
         have c10b1 : (t152 != 3) = false := bne_eq_false_iff_eq.mpr c10
         clear c10
         have H' := Aside0.mk H
         clear H
         try go_wp2
         (try (rw [drewN_self wr];generalize hq_ : World.drewN wr _ = wr;have n0_ : Aside0 (Kd.S k42 42 wr w.heap.size (fun _ => True) u5 x5_1) := ⟨by rw [← hq_];exact (by (with_reducible repeat (first|apply Kd.S_alloc|apply Kd.S_drewN|apply Kd.S_drew));exact HO_5.out)⟩;have n1_ : Aside0 (Below w.heap.size w wr) := ⟨by rw [← hq_];exact (by repeat (first|(with_reducible first|exact HB.out|apply below_alloc|apply pw_below_drewN|apply below_drew1)|exact HB.out))⟩;clear HO_5 HB hq_;have HO_5 := n0_;have HB := n1_;clear n0_ n1_))
         have n0_ := Aside0.mk (Kd.S_drew HO_5.out)
         have n1_ := Aside0.mk (below_drew1 HB.out)
         clear HO_5
         clear HB
         have HO_5 := n0_
         have HB := n1_
         clear n0_ n1_
         have p150 : 0 ≤ (x14_1 : Int) := of_decide_eq_true (by first | (with_reducible assumption) | assumption)
         have q150 : x14_1 < (l1.length : Int) := of_decide_eq_true (by first|(with_reducible assumption)|assumption)
         obtain ⟨ad150, A150_0, c150_0, e150, hx150_0, hl150_0, hi150_0⟩ := at_L2 HR1.out x14_1 p150 q150
         have hw150_0 := hx150_0
         cases e150
         replace hx150_0 := (HB.out.cell (World.block_lt_of_cell? w _ hx150_0)).trans hx150_0
         have HR150_0 := Aside0.mk hi150_0
         have HC150_0 := Aside0.mk hl150_0
         clear hi150_0 hl150_0
         replace p150 := eq_true p150
         replace q150 := eq_true q150
         have p151 : 0 ≤ (x14_1 : Int) := of_decide_eq_true (by first | (with_reducible assumption) | assumption)
         have q151 : x14_1 < (l0.length : Int) := of_decide_eq_true (by first|(with_reducible assumption)|assumption)
         obtain ⟨ad151, A151_0, c151_0, e151, hx151_0, hl151_0, hi151_0⟩ := at_L2 HR0.out x14_1 p151 q151
         have hw151_0 := hx151_0
         cases e151
         replace hx151_0 := (HB.out.cell (World.block_lt_of_cell? w _ hx151_0)).trans hx151_0
         have HR151_0 := Aside0.mk hi151_0
         have HC151_0 := Aside0.mk hl151_0
         clear hi151_0 hl151_0
         replace p151 := eq_true p151
         replace q151 := eq_true q151
         refine start_ (n := 15) (S := fun w' => w'.cell? (ad150.add (x14_1).toNat) = some (.slice A150_0 (rd_L2 l1 x14_1).length c150_0) ∧ w'.cell? (ad151.add (x14_1).toNat) = some (.slice A151_0 (rd_L2 l0 x14_1).length c151_0)) (ds := []) #[false,false,false,false,false,false,false,false,false,false,false,false,false,false,false] (by kernel_rfl) rfl rfl ⟨((HB.out.cell (World.block_lt_of_cell? w _ hw150_0)).trans hw150_0),((HB.out.cell (World.block_lt_of_cell? w _ hw151_0)).trans hw151_0)⟩ (fun hHeld => ?_);refine with_tabW page_Read.tab5 page_Read.bits5 (fun HT_ HW_ => ?_)
         generalize wr.drew = w11 at HO_5 HB HR150_0 HR151_0 hx150_0 hx151_0 hHeld ⊢
         refine pure_ (i := 0) (N := some 18) (v := ?_) (a' := ?_) #[true,false,false,false,false,false,false,false,false,false,false,false,false,false,false] rfl rfl (any_of HT_.out (by kernel_rfl)) (fun _ _ _ h => h) (Or.inl ⟨by rfl,?_⟩) ?_ ?_
         rotate_left
         ·intro w'
          go_simp
          with_reducible rfl
         rotate_left
         ·simp only [Act.put, List.setIfInBounds_toArray, List.set_cons_zero, List.set_cons_succ, i64_w, i32_w]
          rfl
         refine pure_ (i := 1) (N := some 19) (v := ?_) (a' := ?_) #[true,true,false,false,false,false,false,false,false,false,false,false,false,false,false] rfl rfl (any_of HT_.out (by kernel_rfl)) (fun _ _ _ h => h) (Or.inl ⟨by rfl,?_⟩) ?_ ?_
         rotate_left
         ·intro w'
          go_simp
          with_reducible rfl
         rotate_left
         ·simp only [Act.put, List.setIfInBounds_toArray, List.set_cons_zero, List.set_cons_succ, i64_w, i32_w]
          rfl
         refine pure_ (i := 2) (N := some 20) (v := ?_) (a' := ?_) #[true,true,true,false,false,false,false,false,false,false,false,false,false,false,false] rfl rfl (any_of HT_.out (by kernel_rfl)) (fun _ _ _ h => h) (Or.inl ⟨by rfl,?_⟩) ?_ ?_
         rotate_left
         ·intro w'
          go_simp
          with_reducible rfl
         rotate_left
         ·simp only [Act.put, List.setIfInBounds_toArray, List.set_cons_zero, List.set_cons_succ, i64_w, i32_w]
          rfl
         refine pure_ (i := 4) (N := some 22) (v := ?_) (a' := ?_) #[true,true,true,false,true,false,false,false,false,false,false,false,false,false,false] rfl rfl (any_of HT_.out (by kernel_rfl)) (fun _ _ _ h => h) (Or.inl ⟨by rfl,?_⟩) ?_ ?_
         rotate_left
         ·intro w'
          go_simp
          with_reducible rfl
         rotate_left
         ·simp only [Act.put, List.setIfInBounds_toArray, List.set_cons_zero, List.set_cons_succ, i64_w, i32_w]
          rfl
         refine pure_ (i := 5) (N := some 23) (v := ?_) (a' := ?_) #[true,true,true,false,true,true,false,false,false,false,false,false,false,false,false] rfl rfl (any_of HT_.out (by kernel_rfl)) (fun _ _ _ h => h) (Or.inl ⟨by rfl,?_⟩) ?_ ?_
         rotate_left
         ·intro w'
          go_simp
          with_reducible rfl
         rotate_left
         ·simp only [Act.put, List.setIfInBounds_toArray, List.set_cons_zero, List.set_cons_succ, i64_w, i32_w]
          rfl
         refine pure_ (i := 6) (N := some 24) (v := ?_) (a' := ?_) #[true,true,true,false,true,true,true,false,false,false,false,false,false,false,false] rfl rfl (any_of HT_.out (by kernel_rfl)) (fun _ _ _ h => h) (Or.inl ⟨by rfl,?_⟩) ?_ ?_
         rotate_left
         ·intro w'
          go_simp
          with_reducible rfl
         rotate_left
         ·simp only [Act.put, List.setIfInBounds_toArray, List.set_cons_zero, List.set_cons_succ, i64_w, i32_w]
          rfl
         refine take_ (i := 3) (N := some 21) (v := ?_) (a' := ?_) #[true,true,true,true,true,true,true,false,false,false,false,false,false,false,false] rfl rfl (take_ofW HT_.out HW_.out (by kernel_rfl)) (fun _ _ _ h => h) (Or.inl ⟨by rfl,?_⟩) hHeld ?_ ?_
         rotate_left
         ·rintro w' ⟨s0, s1⟩
          go_simp
          with_reducible rfl
         rotate_left
         ·simp only [Act.put, List.setIfInBounds_toArray, List.set_cons_zero, List.set_cons_succ, i64_w, i32_w]
          rfl
         refine take_ (i := 7) (N := some 25) (v := ?_) (a' := ?_) #[true,true,true,true,true,true,true,true,false,false,false,false,false,false,false] rfl rfl (take_ofW HT_.out HW_.out (by kernel_rfl)) (fun _ _ _ h => h) (Or.inl ⟨by rfl,?_⟩) hHeld ?_ ?_
         rotate_left
         ·rintro w' ⟨s0, s1⟩
          go_simp
          with_reducible rfl
         rotate_left
         ·simp only [Act.put, List.setIfInBounds_toArray, List.set_cons_zero, List.set_cons_succ, i64_w, i32_w]
          rfl
         refine join_ (σ := Nat) 2 #[true,true,true,true,true,true,true,true,true,true,true,true,true,false,false] (fun s_ => [(26,.tuple #[.agg #[.int .i64 t152,.int .i64 t153,.int .i64 t154],.int .i64 t155]),(7,.pointer (some ⟨s_,0,none⟩)),(17,.tuple #[.agg #[.int .i64 t152,.int .i64 t153,.int .i64 t154],.int .i64 t155]),(27,.agg #[.int .i64 t152,.int .i64 t153,.int .i64 t154]),(28,.int .i64 t155)]) (fun s_ w' => (w'.cell? (ad150.add (x14_1).toNat) = some (.slice A150_0 (rd_L2 l1 x14_1).length c150_0) ∧ w'.cell? (ad151.add (x14_1).toNat) = some (.slice A151_0 (rd_L2 l0 x14_1).length c151_0)) ∧ (Kd.S k42 42 w' w.heap.size (fun _ => True) u5 x5_1) ∧ (w'.heap[s_]? = some (.cells #[.int .i64 0,.int .i64 0,.int .i64 0] 40 (0,0))) ∧ (w.heap.size ≤ s_) ∧ (w.heap.size ≤ s_) ∧ (Below w.heap.size w w')) ?_ ?_
         rotate_left
         ·intro hCont
          refine two_ (i := 8) (j := 12) (Ni := some 26) (Nj := some 7) #[true,true,true,true,true,true,true,true,true,false,false,false,false,false,false] #[true,true,true,true,true,true,true,true,false,false,false,false,true,false,false] rfl rfl rfl rfl (two_of HT_.out (by kernel_rfl)) (by decide) (by decide) (fun K hK => ?_) (fun K hK => ?_)
          ·skip
           refine goes_ Try.func18 (by kernel_rfl) rfl #[.slice A150_0 (rd_L2 l1 x14_1).length c150_0,.slice A151_0 (rd_L2 l0 x14_1).length c151_0] (by rfl) rfl rfl (by (try simp only [List.map_toArray,List.map_cons,List.map_nil]);first|done|rfl|(simp only [List.length_drop,List.length_take];rfl)) ?_
           with_reducible refine (oob_Unpack.calls k1 _ _ (rd_L2 l1 x14_1) _ _ (rd_L2 l0 x14_1) t152 t153 t154 t155 _ ?side1 ?side2 ?side3 ?side4 A8.out).mono ?_
           (case side1 => repeat (first|exact (Kd.C_below HR150_0.out HB.out)|(with_reducible refine Kd.C_alloc ?_ _)|(with_reducible refine Kd.C_drewN ?_ _)|(with_reducible refine Kd.C_drew ?_)))
           (case side2 => exact HC150_0.out)
           (case side3 => repeat (first|exact (Kd.C_below HR151_0.out HB.out)|(with_reducible refine Kd.C_alloc ?_ _)|(with_reducible refine Kd.C_drewN ?_ _)|(with_reducible refine Kd.C_drew ?_)))
           (case side4 => exact HC151_0.out)
           rintro e w12 ⟨rfl, hb⟩
           refine ⟨_, rfl, ?_⟩
           have n0_ := Aside0.mk (Kd.S_below (by (with_reducible repeat (first|apply Kd.S_alloc|apply Kd.S_drewN|apply Kd.S_drew));exact HO_5.out) hb)
           have n1_ := Aside0.mk (below_step (by repeat (first|(with_reducible first|exact HB.out|apply below_alloc|apply pw_below_drewN|apply below_drew1)|exact HB.out)) hb)
           clear HO_5
           clear HB
           have HO_5 := n0_
           have HB := n1_
           clear n0_ n1_
           (try clear hb)
           (try clear hb2)
           (try clear hk)
           (try clear hi)
           refine hK.out _ _ ⟨((HB.out.cell (World.block_lt_of_cell? w _ hw150_0)).trans hw150_0),((HB.out.cell (World.block_lt_of_cell? w _ hw151_0)).trans hw151_0)⟩ (fun hHeld => ?_)
           clear hK K
           refine norm_ (a' := ?_) ?_ ?_
           rotate_left
           ·show Act.put _ (some 26) _ = _
            simp only [Act.put, List.setIfInBounds_toArray, List.set_cons_zero, List.set_cons_succ, i64_w, i32_w]
            rfl
           refine pure_ (i := 9) (N := some 17) (v := ?_) (a' := ?_) #[true,true,true,true,true,true,true,true,true,true,false,false,false,false,false] rfl rfl (any_of HT_.out (by kernel_rfl)) (fun _ _ _ h => h) (Or.inl ⟨by rfl,?_⟩) ?_ ?_
           rotate_left
           ·intro w'
            go_simp
            with_reducible rfl
           rotate_left
           ·simp only [Act.put, List.setIfInBounds_toArray, List.set_cons_zero, List.set_cons_succ, i64_w, i32_w]
            rfl
           refine pure_ (i := 10) (N := some 27) (v := ?_) (a' := ?_) #[true,true,true,true,true,true,true,true,true,true,true,false,false,false,false] rfl rfl (any_of HT_.out (by kernel_rfl)) (fun _ _ _ h => h) (Or.inl ⟨by rfl,?_⟩) ?_ ?_
           rotate_left
           ·intro w'
            go_simp
            with_reducible rfl
           rotate_left
           ·simp only [Act.put, List.setIfInBounds_toArray, List.set_cons_zero, List.set_cons_succ, i64_w, i32_w]
            rfl
           refine pure_ (i := 11) (N := some 28) (v := ?_) (a' := ?_) #[true,true,true,true,true,true,true,true,true,true,true,true,false,false,false] rfl rfl (any_of HT_.out (by kernel_rfl)) (fun _ _ _ h => h) (Or.inl ⟨by rfl,?_⟩) ?_ ?_
           rotate_left
           ·intro w'
            go_simp
            with_reducible rfl
           rotate_left
           ·simp only [Act.put, List.setIfInBounds_toArray, List.set_cons_zero, List.set_cons_succ, i64_w, i32_w]
            rfl
           refine one_ (i := 12) (N := some 7) #[true,true,true,true,true,true,true,true,true,true,true,true,true,false,false] rfl rfl (one_of HT_.out (by kernel_rfl)) (by decide) (fun K hK => ?_)
           refine box_step ?hg (N := 7) ?hd (cs := #[.int .i64 0,.int .i64 0,.int .i64 0]) (t := 40) ?hr ?_;(case hd => rfl);(case hg => rfl);(case hr => first|(go_simp;done)|(go_simp;rfl))
           intro gb156 hg w13 hbox hb
           have n0_ := Aside0.mk (Kd.S_below (by (with_reducible repeat (first|apply Kd.S_alloc|apply Kd.S_drewN|apply Kd.S_drew));exact HO_5.out) hb)
           have n1_ := Aside0.mk (below_step (by repeat (first|(with_reducible first|exact HB.out|apply below_alloc|apply pw_below_drewN|apply below_drew1)|exact HB.out)) hb)
           have n2_ := Aside0.mk (hbox)
           have n3_ := Aside0.mk ((by rw [hg];exact (below_size (by repeat (first|(with_reducible first|exact HB.out|apply below_alloc|apply pw_below_drewN|apply below_drew1)|exact HB.out))) : w.heap.size ≤ gb156))
           have n4_ := Aside0.mk ((by rw [hg];exact (below_size (by repeat (first|(with_reducible first|exact HB.out|apply below_alloc|apply pw_below_drewN|apply below_drew1)|exact HB.out))) : w.heap.size ≤ gb156))
           clear HO_5
           clear HB
           have HO_5 := n0_
           have HB := n1_
           have BK156 := n2_
           have GW156 := n3_
           have GE156 := n4_
           clear n0_ n1_ n2_ n3_ n4_
           clear hb hbox hg
           refine hK.out _ _ ⟨((HB.out.cell (World.block_lt_of_cell? w _ hw150_0)).trans hw150_0),((HB.out.cell (World.block_lt_of_cell? w _ hw151_0)).trans hw151_0)⟩ (fun hHeld => ?_)
           clear hK K
           refine norm_ (a' := ?_) ?_ ?_
           rotate_left
           ·show Act.put _ (some 7) _ = _
            simp only [Act.put, List.setIfInBounds_toArray, List.set_cons_zero, List.set_cons_succ, i64_w, i32_w]
            rfl
           exact norm_ (by simp only [putAll,Act.put,List.setIfInBounds_toArray,List.set_cons_zero,List.set_cons_succ]) (hCont (gb156) _ ⟨hHeld,(by (with_reducible repeat (first|apply Kd.S_alloc|apply Kd.S_drewN|apply Kd.S_drew));exact HO_5.out),(by (with_reducible repeat (first|refine blk_drewN ?_ _|refine blk_drew ?_|refine blk_alloc ?_ _));exact BK156.out),GW156.out,GE156.out,(by repeat (first|(with_reducible first|exact HB.out|apply below_alloc|apply pw_below_drewN|apply below_drew1|refine below_set ?_ GE156.out)|exact HB.out))⟩)
          ·skip
           refine box_step ?hg (N := 7) ?hd (cs := #[.int .i64 0,.int .i64 0,.int .i64 0]) (t := 40) ?hr ?_;(case hd => rfl);(case hg => rfl);(case hr => first|(go_simp;done)|(go_simp;rfl))
           intro gb156 hg w12 hbox hb
           have n0_ := Aside0.mk (Kd.S_below (by (with_reducible repeat (first|apply Kd.S_alloc|apply Kd.S_drewN|apply Kd.S_drew));exact HO_5.out) hb)
           have n1_ := Aside0.mk (below_step (by repeat (first|(with_reducible first|exact HB.out|apply below_alloc|apply pw_below_drewN|apply below_drew1)|exact HB.out)) hb)
           have n2_ := Aside0.mk (hbox)
           have n3_ := Aside0.mk ((by rw [hg];exact (below_size (by repeat (first|(with_reducible first|exact HB.out|apply below_alloc|apply pw_below_drewN|apply below_drew1)|exact HB.out))) : w.heap.size ≤ gb156))
           have n4_ := Aside0.mk ((by rw [hg];exact (below_size (by repeat (first|(with_reducible first|exact HB.out|apply below_alloc|apply pw_below_drewN|apply below_drew1)|exact HB.out))) : w.heap.size ≤ gb156))
           clear HO_5
           clear HB
           have HO_5 := n0_
           have HB := n1_
           have BK156 := n2_
           have GW156 := n3_
           have GE156 := n4_
           clear n0_ n1_ n2_ n3_ n4_
           clear hb hbox hg
           refine hK.out _ _ ⟨((HB.out.cell (World.block_lt_of_cell? w _ hw150_0)).trans hw150_0),((HB.out.cell (World.block_lt_of_cell? w _ hw151_0)).trans hw151_0)⟩ (fun hHeld => ?_)
           clear hK K
           refine norm_ (a' := ?_) ?_ ?_
           rotate_left
           ·show Act.put _ (some 7) _ = _
            simp only [Act.put, List.setIfInBounds_toArray, List.set_cons_zero, List.set_cons_succ, i64_w, i32_w]
            rfl
           refine one_ (i := 8) (N := some 26) #[true,true,true,true,true,true,true,true,true,false,false,false,true,false,false] rfl rfl (one_of HT_.out (by kernel_rfl)) (by decide) (fun K hK => ?_)
           refine goes_ Try.func18 (by kernel_rfl) rfl #[.slice A150_0 (rd_L2 l1 x14_1).length c150_0,.slice A151_0 (rd_L2 l0 x14_1).length c151_0] (by rfl) rfl rfl (by (try simp only [List.map_toArray,List.map_cons,List.map_nil]);first|done|rfl|(simp only [List.length_drop,List.length_take];rfl)) ?_
           with_reducible refine (oob_Unpack.calls k1 _ _ (rd_L2 l1 x14_1) _ _ (rd_L2 l0 x14_1) t152 t153 t154 t155 _ ?side1 ?side2 ?side3 ?side4 A8.out).mono ?_
           (case side1 => repeat (first|exact (Kd.C_below HR150_0.out HB.out)|(with_reducible refine Kd.C_alloc ?_ _)|(with_reducible refine Kd.C_drewN ?_ _)|(with_reducible refine Kd.C_drew ?_)))
           (case side2 => exact HC150_0.out)
           (case side3 => repeat (first|exact (Kd.C_below HR151_0.out HB.out)|(with_reducible refine Kd.C_alloc ?_ _)|(with_reducible refine Kd.C_drewN ?_ _)|(with_reducible refine Kd.C_drew ?_)))
           (case side4 => exact HC151_0.out)
           rintro e w13 ⟨rfl, hb⟩
           refine ⟨_, rfl, ?_⟩
           have n0_ := Aside0.mk (Kd.S_below (by (with_reducible repeat (first|apply Kd.S_alloc|apply Kd.S_drewN|apply Kd.S_drew));exact HO_5.out) hb)
           have n1_ := Aside0.mk (blk_below (g := gb156) (o := .cells #[.int .i64 0,.int .i64 0,.int .i64 0] 40 (0,0)) (by (with_reducible repeat (first|refine blk_drewN ?_ _|refine blk_drew ?_|refine blk_alloc ?_ _));exact BK156.out) hb)
           have n2_ := Aside0.mk (below_step (by repeat (first|(with_reducible first|exact HB.out|apply below_alloc|apply pw_below_drewN|apply below_drew1|refine below_set ?_ GE156.out)|exact HB.out)) hb)
           clear HO_5
           clear BK156
           clear HB
           have HO_5 := n0_
           have BK156 := n1_
           have HB := n2_
           clear n0_ n1_ n2_
           (try clear hb)
           (try clear hb2)
           (try clear hk)
           (try clear hi)
           refine hK.out _ _ ⟨((HB.out.cell (World.block_lt_of_cell? w _ hw150_0)).trans hw150_0),((HB.out.cell (World.block_lt_of_cell? w _ hw151_0)).trans hw151_0)⟩ (fun hHeld => ?_)
           clear hK K
           refine norm_ (a' := ?_) ?_ ?_
           rotate_left
           ·show Act.put _ (some 26) _ = _
            simp only [Act.put, List.setIfInBounds_toArray, List.set_cons_zero, List.set_cons_succ, i64_w, i32_w]
            rfl
           refine pure_ (i := 9) (N := some 17) (v := ?_) (a' := ?_) #[true,true,true,true,true,true,true,true,true,true,false,false,true,false,false] rfl rfl (any_of HT_.out (by kernel_rfl)) (fun _ _ _ h => h) (Or.inl ⟨by rfl,?_⟩) ?_ ?_
           rotate_left
           ·intro w'
            go_simp
            with_reducible rfl
           rotate_left
           ·simp only [Act.put, List.setIfInBounds_toArray, List.set_cons_zero, List.set_cons_succ, i64_w, i32_w]
            rfl
           refine pure_ (i := 10) (N := some 27) (v := ?_) (a' := ?_) #[true,true,true,true,true,true,true,true,true,true,true,false,true,false,false] rfl rfl (any_of HT_.out (by kernel_rfl)) (fun _ _ _ h => h) (Or.inl ⟨by rfl,?_⟩) ?_ ?_
           rotate_left
           ·intro w'
            go_simp
            with_reducible rfl
           rotate_left
           ·simp only [Act.put, List.setIfInBounds_toArray, List.set_cons_zero, List.set_cons_succ, i64_w, i32_w]
            rfl
           refine pure_ (i := 11) (N := some 28) (v := ?_) (a' := ?_) #[true,true,true,true,true,true,true,true,true,true,true,true,true,false,false] rfl rfl (any_of HT_.out (by kernel_rfl)) (fun _ _ _ h => h) (Or.inl ⟨by rfl,?_⟩) ?_ ?_
           rotate_left
           ·intro w'
            go_simp
            with_reducible rfl
           rotate_left
           ·simp only [Act.put, List.setIfInBounds_toArray, List.set_cons_zero, List.set_cons_succ, i64_w, i32_w]
            rfl
           exact norm_ (by simp only [putAll,Act.put,List.setIfInBounds_toArray,List.set_cons_zero,List.set_cons_succ]) (hCont (gb156) _ ⟨hHeld,(by (with_reducible repeat (first|apply Kd.S_alloc|apply Kd.S_drewN|apply Kd.S_drew));exact HO_5.out),(by (with_reducible repeat (first|refine blk_drewN ?_ _|refine blk_drew ?_|refine blk_alloc ?_ _));exact BK156.out),GW156.out,GE156.out,(by repeat (first|(with_reducible first|exact HB.out|apply below_alloc|apply pw_below_drewN|apply below_drew1|refine below_set ?_ GE156.out)|exact HB.out))⟩)
         rintro gb156 w14 ⟨hS_, h0_, h1_, h2_, h3_, h4_⟩
         have n0_ : Aside0 (Kd.S k42 42 w14 w.heap.size (fun _ => True) u5 x5_1) := ⟨h0_⟩
         have n1_ : Aside0 (w14.heap[gb156]? = some (.cells #[.int .i64 0,.int .i64 0,.int .i64 0] 40 (0,0))) := ⟨h1_⟩
         have n2_ : Aside0 (w.heap.size ≤ gb156) := ⟨h2_⟩
         have n3_ : Aside0 (w.heap.size ≤ gb156) := ⟨h3_⟩
         have n4_ : Aside0 (Below w.heap.size w w14) := ⟨h4_⟩
         clear HO_5
         clear HB
         clear h0_ h1_ h2_ h3_ h4_
         have HO_5 := n0_
         have BK156 := n1_
         have GW156 := n2_
         have GE156 := n3_
         have HB := n4_
         clear n0_ n1_ n2_ n3_ n4_
         have hHeld : w14.cell? (ad150.add (x14_1).toNat) = some (.slice A150_0 (rd_L2 l1 x14_1).length c150_0) ∧ w14.cell? (ad151.add (x14_1).toNat) = some (.slice A151_0 (rd_L2 l0 x14_1).length c151_0) := hS_
         refine norm_ (a' := ?_) ?_ ?_
         rotate_left
         ·simp only [putAll, Act.put, List.setIfInBounds_toArray, List.set_cons_zero, List.set_cons_succ]
          rfl
         refine one_ (i := 13) (N := none) #[true,true,true,true,true,true,true,true,true,true,true,true,true,true,false] rfl rfl (one_of HT_.out (by kernel_rfl)) (by decide) (fun K hK => ?_)
         have hs15 : w14.cell? ⟨gb156, 0, none⟩ = some (.int .i64 0) := (blk_cell BK156.out 0).trans rfl
         have hfs15 := blk_frozen BK156.out 0
         have hs16 : w14.cell? ⟨gb156, 1, none⟩ = some (.int .i64 0) := (blk_cell BK156.out 1).trans rfl
         have hfs16 := blk_frozen BK156.out 1
         have hs17 : w14.cell? ⟨gb156, 2, none⟩ = some (.int .i64 0) := (blk_cell BK156.out 2).trans rfl
         have hfs17 := blk_frozen BK156.out 2
         refine skip_ (w1 := ?_) (by rfl) rfl ?_ ?_
         rotate_left
         ·go_simp
          rfl
         refine hK.out _ _ ⟨((cell_far (p := ⟨gb156,_,none⟩) (by first|exact Nat.ne_of_lt (Nat.lt_of_lt_of_le (by have := World.block_lt_of_cell? _ _ hw150_0;first|rwa [add_block] at this|exact this) GW156.out)|(rw [add_block];exact Nat.ne_of_lt (Nat.lt_of_lt_of_le (by have := World.block_lt_of_cell? _ _ hw150_0;first|rwa [add_block] at this|exact this) GW156.out))|(show (Addr.add _ _).block ≠ _;rw [add_block];exact Nat.ne_of_lt (Nat.lt_of_lt_of_le (by have := World.block_lt_of_cell? _ _ hw150_0;first|rwa [add_block] at this|exact this) GW156.out))|(dsimp only;exact Nat.ne_of_lt (Nat.lt_of_lt_of_le (by have := World.block_lt_of_cell? _ _ hw150_0;first|rwa [add_block] at this|exact this) GW156.out))) _).trans (((cell_far (p := ⟨gb156,_,none⟩) (by first|exact Nat.ne_of_lt (Nat.lt_of_lt_of_le (by have := World.block_lt_of_cell? _ _ hw150_0;first|rwa [add_block] at this|exact this) GW156.out)|(rw [add_block];exact Nat.ne_of_lt (Nat.lt_of_lt_of_le (by have := World.block_lt_of_cell? _ _ hw150_0;first|rwa [add_block] at this|exact this) GW156.out))|(show (Addr.add _ _).block ≠ _;rw [add_block];exact Nat.ne_of_lt (Nat.lt_of_lt_of_le (by have := World.block_lt_of_cell? _ _ hw150_0;first|rwa [add_block] at this|exact this) GW156.out))|(dsimp only;exact Nat.ne_of_lt (Nat.lt_of_lt_of_le (by have := World.block_lt_of_cell? _ _ hw150_0;first|rwa [add_block] at this|exact this) GW156.out))) _).trans (((cell_far (p := ⟨gb156,_,none⟩) (by first|exact Nat.ne_of_lt (Nat.lt_of_lt_of_le (by have := World.block_lt_of_cell? _ _ hw150_0;first|rwa [add_block] at this|exact this) GW156.out)|(rw [add_block];exact Nat.ne_of_lt (Nat.lt_of_lt_of_le (by have := World.block_lt_of_cell? _ _ hw150_0;first|rwa [add_block] at this|exact this) GW156.out))|(show (Addr.add _ _).block ≠ _;rw [add_block];exact Nat.ne_of_lt (Nat.lt_of_lt_of_le (by have := World.block_lt_of_cell? _ _ hw150_0;first|rwa [add_block] at this|exact this) GW156.out))|(dsimp only;exact Nat.ne_of_lt (Nat.lt_of_lt_of_le (by have := World.block_lt_of_cell? _ _ hw150_0;first|rwa [add_block] at this|exact this) GW156.out))) _).trans (hHeld.1)))))),((cell_far (p := ⟨gb156,_,none⟩) (by first|exact Nat.ne_of_lt (Nat.lt_of_lt_of_le (by have := World.block_lt_of_cell? _ _ hw151_0;first|rwa [add_block] at this|exact this) GW156.out)|(rw [add_block];exact Nat.ne_of_lt (Nat.lt_of_lt_of_le (by have := World.block_lt_of_cell? _ _ hw151_0;first|rwa [add_block] at this|exact this) GW156.out))|(show (Addr.add _ _).block ≠ _;rw [add_block];exact Nat.ne_of_lt (Nat.lt_of_lt_of_le (by have := World.block_lt_of_cell? _ _ hw151_0;first|rwa [add_block] at this|exact this) GW156.out))|(dsimp only;exact Nat.ne_of_lt (Nat.lt_of_lt_of_le (by have := World.block_lt_of_cell? _ _ hw151_0;first|rwa [add_block] at this|exact this) GW156.out))) _).trans (((cell_far (p := ⟨gb156,_,none⟩) (by first|exact Nat.ne_of_lt (Nat.lt_of_lt_of_le (by have := World.block_lt_of_cell? _ _ hw151_0;first|rwa [add_block] at this|exact this) GW156.out)|(rw [add_block];exact Nat.ne_of_lt (Nat.lt_of_lt_of_le (by have := World.block_lt_of_cell? _ _ hw151_0;first|rwa [add_block] at this|exact this) GW156.out))|(show (Addr.add _ _).block ≠ _;rw [add_block];exact Nat.ne_of_lt (Nat.lt_of_lt_of_le (by have := World.block_lt_of_cell? _ _ hw151_0;first|rwa [add_block] at this|exact this) GW156.out))|(dsimp only;exact Nat.ne_of_lt (Nat.lt_of_lt_of_le (by have := World.block_lt_of_cell? _ _ hw151_0;first|rwa [add_block] at this|exact this) GW156.out))) _).trans (((cell_far (p := ⟨gb156,_,none⟩) (by first|exact Nat.ne_of_lt (Nat.lt_of_lt_of_le (by have := World.block_lt_of_cell? _ _ hw151_0;first|rwa [add_block] at this|exact this) GW156.out)|(rw [add_block];exact Nat.ne_of_lt (Nat.lt_of_lt_of_le (by have := World.block_lt_of_cell? _ _ hw151_0;first|rwa [add_block] at this|exact this) GW156.out))|(show (Addr.add _ _).block ≠ _;rw [add_block];exact Nat.ne_of_lt (Nat.lt_of_lt_of_le (by have := World.block_lt_of_cell? _ _ hw151_0;first|rwa [add_block] at this|exact this) GW156.out))|(dsimp only;exact Nat.ne_of_lt (Nat.lt_of_lt_of_le (by have := World.block_lt_of_cell? _ _ hw151_0;first|rwa [add_block] at this|exact this) GW156.out))) _).trans (hHeld.2))))))⟩ (fun hHeld => ?_)
         clear hK K
         refine pure_ (i := 14) (N := some 8) (v := ?_) (a' := ?_) #[true,true,true,true,true,true,true,true,true,true,true,true,true,true,true] rfl rfl (any_of HT_.out (by kernel_rfl)) (fun _ _ _ h => h) (Or.inl ⟨by rfl,?_⟩) ?_ ?_
         rotate_left
         ·intro w'
          go_simp
          with_reducible rfl
         rotate_left
         ·simp only [Act.put, List.setIfInBounds_toArray, List.set_cons_zero, List.set_cons_succ, i64_w, i32_w]
          rfl
         refine done_ (done_of HT_.out (by kernel_rfl)) ?_
         have hcz18_0 : w14.cell? ⟨gb156, 0, none⟩ = some (.int .i64 0) := (blk_cell BK156.out 0).trans rfl
         have hcz18_1 : w14.cell? ⟨gb156, 1, none⟩ = some (.int .i64 0) := (blk_cell BK156.out 1).trans rfl
         have hcz18_2 : w14.cell? ⟨gb156, 2, none⟩ = some (.int .i64 0) := (blk_cell BK156.out 2).trans rfl
         have hfz18_0 := blk_frozen BK156.out 0
         have hfz18_1 := blk_frozen BK156.out 1
         have hfz18_2 := blk_frozen BK156.out 2
         try go_wp2
         go_roundg k1
         case measure => have := HK1.out; omega
         case rel => exact ⟨(x5_1),(wrap64 (x14_1 + 1)),(by first|rfl|(simp;done)|(simp [*];done)),H',⟨by have := HK1.out;omega⟩,⟨by (with_reducible repeat (first|apply Kd.S_alloc|apply Kd.S_drewN|apply Kd.S_drew));exact Kd.S_mono (Kd.S_far (p := ⟨gb156,2,none⟩) (Kd.S_far (p := ⟨gb156,1,none⟩) (Kd.S_far (p := ⟨gb156,0,none⟩) (Kd.S_types HO_5.out BK156.out (by decide)) (fun _ hk => hk.2) (.int .i64 t152)) (fun _ hk => hk.2) (.int .i64 t153)) (fun _ hk => hk.2) (.int .i64 t154)) (fun _ hk => trivial)⟩,⟨by repeat (first|(with_reducible first|exact HB.out|apply below_alloc|apply pw_below_drewN|apply below_drew1|refine below_set ?_ GE156.out)|exact HB.out)⟩⟩
        ·rw [if_neg c10] at H
         have c10b0 : (t152 == 3) = false := beq_eq_false_iff_ne.mpr c10
         have c10b1 : (t152 != 3) = true := bne_iff_ne.mpr c10
         obtain ⟨y157, hy157⟩ : ∃ y_ : List Int, y_ = (([] : List Int)) := ⟨_, rfl⟩
         replace H : (if y157.length + (rd_L2 l0 x14_1).length < 140737488355328 then (if x5_1.length < 2513169434916 then (page_Read.l0 k1 l0 l1 (x5_1 ++ [(⟨x14_1,(⟨t152,t153,t154⟩ : S40),(y157 ++ (rd_L2 l0 x14_1))⟩ : S42)]) ji3 (wrap64 (x14_1 + 1))) else (none)) else (none)) = some r := by first|(rw [hy157];with_reducible exact H)|(have H2_ := (Option.bind_some _ _).symm.trans H;rw [hy157];with_reducible exact H2_)|(have H2_ := (Option.bind_some _ _).symm.trans H;with_reducible exact H2_)|with_reducible exact H|(rw [hy157];exact H)|exact H
         have Ny157 := Aside0.mk hy157
         clear hy157
         by_cases c19 : y157.length + (rd_L2 l0 x14_1).length < 140737488355328
         ·rw [if_pos c19] at H
          have LMc19 := Aside0.mk c19
          clear c19
          obtain ⟨y161, hy161⟩ : ∃ y_ : List Int, y_ = (y157 ++ (rd_L2 l0 x14_1)) := ⟨_, rfl⟩
          replace H : (if x5_1.length < 2513169434916 then (page_Read.l0 k1 l0 l1 (x5_1 ++ [(⟨x14_1,(⟨t152,t153,t154⟩ : S40),y161⟩ : S42)]) ji3 (wrap64 (x14_1 + 1))) else (none)) = some r := by first|(rw [hy161];with_reducible exact H)|(have H2_ := (Option.bind_some _ _).symm.trans H;rw [hy161];with_reducible exact H2_)|(have H2_ := (Option.bind_some _ _).symm.trans H;with_reducible exact H2_)|with_reducible exact H|(rw [hy161];exact H)|exact H
          have Ny161 := Aside0.mk hy161
          clear hy161
          by_cases c20 : x5_1.length < 2513169434916
          ·rw [if_pos c20] at H
           have LMc20 := Aside0.mk c20
           clear c20
           obtain ⟨y164,hy164⟩ : ∃ y_ : List (S42),y_ = (x5_1 ++ [(⟨x14_1,(⟨t152,t153,t154⟩ : S40),y161⟩ : S42)]) := ⟨_,rfl⟩
           replace H : (page_Read.l0 k1 l0 l1 y164 ji3 (wrap64 (x14_1 + 1))) = some r := by first|(rw [hy164];with_reducible exact H)|(have H2_ := (Option.bind_some _ _).symm.trans H;rw [hy164];with_reducible exact H2_)|(have H2_ := (Option.bind_some _ _).symm.trans H;with_reducible exact H2_)|with_reducible exact H|(rw [hy164];exact H)|exact H
           have Ny164 := Aside0.mk hy164
           clear hy164
           have H' := Aside0.mk H
           clear H
           try go_wp2
           (try (rw [drewN_self wr];generalize hq_ : World.drewN wr _ = wr;have n0_ : Aside0 (Kd.S k42 42 wr w.heap.size (fun _ => True) u5 x5_1) := ⟨by rw [← hq_];exact (by (with_reducible repeat (first|apply Kd.S_alloc|apply Kd.S_drewN|apply Kd.S_drew));exact HO_5.out)⟩;have n1_ : Aside0 (Below w.heap.size w wr) := ⟨by rw [← hq_];exact (by repeat (first|(with_reducible first|exact HB.out|apply below_alloc|apply pw_below_drewN|apply below_drew1)|exact HB.out))⟩;clear HO_5 HB hq_;have HO_5 := n0_;have HB := n1_;clear n0_ n1_))
           have n0_ := Aside0.mk (Kd.S_drew HO_5.out)
           have n1_ := Aside0.mk (below_drew1 HB.out)
           clear HO_5
           clear HB
           have HO_5 := n0_
           have HB := n1_
           clear n0_ n1_
           have p150 : 0 ≤ (x14_1 : Int) := of_decide_eq_true (by first | (with_reducible assumption) | assumption)
           have q150 : x14_1 < (l1.length : Int) := of_decide_eq_true (by first|(with_reducible assumption)|assumption)
           obtain ⟨ad150, A150_0, c150_0, e150, hx150_0, hl150_0, hi150_0⟩ := at_L2 HR1.out x14_1 p150 q150
           have hw150_0 := hx150_0
           cases e150
           replace hx150_0 := (HB.out.cell (World.block_lt_of_cell? w _ hx150_0)).trans hx150_0
           have HR150_0 := Aside0.mk hi150_0
           have HC150_0 := Aside0.mk hl150_0
           clear hi150_0 hl150_0
           replace p150 := eq_true p150
           replace q150 := eq_true q150
           have p151 : 0 ≤ (x14_1 : Int) := of_decide_eq_true (by first | (with_reducible assumption) | assumption)
           have q151 : x14_1 < (l0.length : Int) := of_decide_eq_true (by first|(with_reducible assumption)|assumption)
           obtain ⟨ad151, A151_0, c151_0, e151, hx151_0, hl151_0, hi151_0⟩ := at_L2 HR0.out x14_1 p151 q151
           have hw151_0 := hx151_0
           cases e151
           replace hx151_0 := (HB.out.cell (World.block_lt_of_cell? w _ hx151_0)).trans hx151_0
           have HR151_0 := Aside0.mk hi151_0
           have HC151_0 := Aside0.mk hl151_0
           clear hi151_0 hl151_0
           replace p151 := eq_true p151
           replace q151 := eq_true q151
           refine start_ (n := 15) (S := fun w' => w'.cell? (ad150.add (x14_1).toNat) = some (.slice A150_0 (rd_L2 l1 x14_1).length c150_0) ∧ w'.cell? (ad151.add (x14_1).toNat) = some (.slice A151_0 (rd_L2 l0 x14_1).length c151_0)) (ds := []) #[false,false,false,false,false,false,false,false,false,false,false,false,false,false,false] (by kernel_rfl) rfl rfl ⟨((HB.out.cell (World.block_lt_of_cell? w _ hw150_0)).trans hw150_0),((HB.out.cell (World.block_lt_of_cell? w _ hw151_0)).trans hw151_0)⟩ (fun hHeld => ?_);refine with_tabW page_Read.tab5 page_Read.bits5 (fun HT_ HW_ => ?_)
           generalize wr.drew = w21 at HO_5 HB HR150_0 HR151_0 hx150_0 hx151_0 hHeld ⊢
           refine pure_ (i := 0) (N := some 18) (v := ?_) (a' := ?_) #[true,false,false,false,false,false,false,false,false,false,false,false,false,false,false] rfl rfl (any_of HT_.out (by kernel_rfl)) (fun _ _ _ h => h) (Or.inl ⟨by rfl,?_⟩) ?_ ?_
           rotate_left
           ·intro w'
            go_simp
            with_reducible rfl
           rotate_left
           ·simp only [Act.put, List.setIfInBounds_toArray, List.set_cons_zero, List.set_cons_succ, i64_w, i32_w]
            rfl
           refine pure_ (i := 1) (N := some 19) (v := ?_) (a' := ?_) #[true,true,false,false,false,false,false,false,false,false,false,false,false,false,false] rfl rfl (any_of HT_.out (by kernel_rfl)) (fun _ _ _ h => h) (Or.inl ⟨by rfl,?_⟩) ?_ ?_
           rotate_left
           ·intro w'
            go_simp
            with_reducible rfl
           rotate_left
           ·simp only [Act.put, List.setIfInBounds_toArray, List.set_cons_zero, List.set_cons_succ, i64_w, i32_w]
            rfl
           refine pure_ (i := 2) (N := some 20) (v := ?_) (a' := ?_) #[true,true,true,false,false,false,false,false,false,false,false,false,false,false,false] rfl rfl (any_of HT_.out (by kernel_rfl)) (fun _ _ _ h => h) (Or.inl ⟨by rfl,?_⟩) ?_ ?_
           rotate_left
           ·intro w'
            go_simp
            with_reducible rfl
           rotate_left
           ·simp only [Act.put, List.setIfInBounds_toArray, List.set_cons_zero, List.set_cons_succ, i64_w, i32_w]
            rfl
           refine pure_ (i := 4) (N := some 22) (v := ?_) (a' := ?_) #[true,true,true,false,true,false,false,false,false,false,false,false,false,false,false] rfl rfl (any_of HT_.out (by kernel_rfl)) (fun _ _ _ h => h) (Or.inl ⟨by rfl,?_⟩) ?_ ?_
           rotate_left
           ·intro w'
            go_simp
            with_reducible rfl
           rotate_left
           ·simp only [Act.put, List.setIfInBounds_toArray, List.set_cons_zero, List.set_cons_succ, i64_w, i32_w]
            rfl
           refine pure_ (i := 5) (N := some 23) (v := ?_) (a' := ?_) #[true,true,true,false,true,true,false,false,false,false,false,false,false,false,false] rfl rfl (any_of HT_.out (by kernel_rfl)) (fun _ _ _ h => h) (Or.inl ⟨by rfl,?_⟩) ?_ ?_
           rotate_left
           ·intro w'
            go_simp
            with_reducible rfl
           rotate_left
           ·simp only [Act.put, List.setIfInBounds_toArray, List.set_cons_zero, List.set_cons_succ, i64_w, i32_w]
            rfl
           refine pure_ (i := 6) (N := some 24) (v := ?_) (a' := ?_) #[true,true,true,false,true,true,true,false,false,false,false,false,false,false,false] rfl rfl (any_of HT_.out (by kernel_rfl)) (fun _ _ _ h => h) (Or.inl ⟨by rfl,?_⟩) ?_ ?_
           rotate_left
           ·intro w'
            go_simp
            with_reducible rfl
           rotate_left
           ·simp only [Act.put, List.setIfInBounds_toArray, List.set_cons_zero, List.set_cons_succ, i64_w, i32_w]
            rfl
           refine take_ (i := 3) (N := some 21) (v := ?_) (a' := ?_) #[true,true,true,true,true,true,true,false,false,false,false,false,false,false,false] rfl rfl (take_ofW HT_.out HW_.out (by kernel_rfl)) (fun _ _ _ h => h) (Or.inl ⟨by rfl,?_⟩) hHeld ?_ ?_
           rotate_left
           ·rintro w' ⟨s0, s1⟩
            go_simp
            with_reducible rfl
           rotate_left
           ·simp only [Act.put, List.setIfInBounds_toArray, List.set_cons_zero, List.set_cons_succ, i64_w, i32_w]
            rfl
           refine take_ (i := 7) (N := some 25) (v := ?_) (a' := ?_) #[true,true,true,true,true,true,true,true,false,false,false,false,false,false,false] rfl rfl (take_ofW HT_.out HW_.out (by kernel_rfl)) (fun _ _ _ h => h) (Or.inl ⟨by rfl,?_⟩) hHeld ?_ ?_
           rotate_left
           ·rintro w' ⟨s0, s1⟩
            go_simp
            with_reducible rfl
           rotate_left
           ·simp only [Act.put, List.setIfInBounds_toArray, List.set_cons_zero, List.set_cons_succ, i64_w, i32_w]
            rfl
           refine join_ (σ := Nat) 2 #[true,true,true,true,true,true,true,true,true,true,true,true,true,false,false] (fun s_ => [(26,.tuple #[.agg #[.int .i64 t152,.int .i64 t153,.int .i64 t154],.int .i64 t155]),(7,.pointer (some ⟨s_,0,none⟩)),(17,.tuple #[.agg #[.int .i64 t152,.int .i64 t153,.int .i64 t154],.int .i64 t155]),(27,.agg #[.int .i64 t152,.int .i64 t153,.int .i64 t154]),(28,.int .i64 t155)]) (fun s_ w' => (w'.cell? (ad150.add (x14_1).toNat) = some (.slice A150_0 (rd_L2 l1 x14_1).length c150_0) ∧ w'.cell? (ad151.add (x14_1).toNat) = some (.slice A151_0 (rd_L2 l0 x14_1).length c151_0)) ∧ (Kd.S k42 42 w' w.heap.size (fun _ => True) u5 x5_1) ∧ (w'.heap[s_]? = some (.cells #[.int .i64 0,.int .i64 0,.int .i64 0] 40 (0,0))) ∧ (w.heap.size ≤ s_) ∧ (w.heap.size ≤ s_) ∧ (Below w.heap.size w w')) ?_ ?_
           rotate_left
           ·intro hCont
            refine two_ (i := 8) (j := 12) (Ni := some 26) (Nj := some 7) #[true,true,true,true,true,true,true,true,true,false,false,false,false,false,false] #[true,true,true,true,true,true,true,true,false,false,false,false,true,false,false] rfl rfl rfl rfl (two_of HT_.out (by kernel_rfl)) (by decide) (by decide) (fun K hK => ?_) (fun K hK => ?_)
            ·skip
             refine goes_ Try.func18 (by kernel_rfl) rfl #[.slice A150_0 (rd_L2 l1 x14_1).length c150_0,.slice A151_0 (rd_L2 l0 x14_1).length c151_0] (by rfl) rfl rfl (by (try simp only [List.map_toArray,List.map_cons,List.map_nil]);first|done|rfl|(simp only [List.length_drop,List.length_take];rfl)) ?_
             with_reducible refine (oob_Unpack.calls k1 _ _ (rd_L2 l1 x14_1) _ _ (rd_L2 l0 x14_1) t152 t153 t154 t155 _ ?side1 ?side2 ?side3 ?side4 A8.out).mono ?_
             (case side1 => repeat (first|exact (Kd.C_below HR150_0.out HB.out)|(with_reducible refine Kd.C_alloc ?_ _)|(with_reducible refine Kd.C_drewN ?_ _)|(with_reducible refine Kd.C_drew ?_)))
             (case side2 => exact HC150_0.out)
             (case side3 => repeat (first|exact (Kd.C_below HR151_0.out HB.out)|(with_reducible refine Kd.C_alloc ?_ _)|(with_reducible refine Kd.C_drewN ?_ _)|(with_reducible refine Kd.C_drew ?_)))
             (case side4 => exact HC151_0.out)
             rintro e w22 ⟨rfl, hb⟩
             refine ⟨_, rfl, ?_⟩
             have n0_ := Aside0.mk (Kd.S_below (by (with_reducible repeat (first|apply Kd.S_alloc|apply Kd.S_drewN|apply Kd.S_drew));exact HO_5.out) hb)
             have n1_ := Aside0.mk (below_step (by repeat (first|(with_reducible first|exact HB.out|apply below_alloc|apply pw_below_drewN|apply below_drew1)|exact HB.out)) hb)
             clear HO_5
             clear HB
             have HO_5 := n0_
             have HB := n1_
             clear n0_ n1_
             (try clear hb)
             (try clear hb2)
             (try clear hk)
             (try clear hi)
             refine hK.out _ _ ⟨((HB.out.cell (World.block_lt_of_cell? w _ hw150_0)).trans hw150_0),((HB.out.cell (World.block_lt_of_cell? w _ hw151_0)).trans hw151_0)⟩ (fun hHeld => ?_)
             clear hK K
             refine norm_ (a' := ?_) ?_ ?_
             rotate_left
             ·show Act.put _ (some 26) _ = _
              simp only [Act.put, List.setIfInBounds_toArray, List.set_cons_zero, List.set_cons_succ, i64_w, i32_w]
              rfl
             refine pure_ (i := 9) (N := some 17) (v := ?_) (a' := ?_) #[true,true,true,true,true,true,true,true,true,true,false,false,false,false,false] rfl rfl (any_of HT_.out (by kernel_rfl)) (fun _ _ _ h => h) (Or.inl ⟨by rfl,?_⟩) ?_ ?_
             rotate_left
             ·intro w'
              go_simp
              with_reducible rfl
             rotate_left
             ·simp only [Act.put, List.setIfInBounds_toArray, List.set_cons_zero, List.set_cons_succ, i64_w, i32_w]
              rfl
             refine pure_ (i := 10) (N := some 27) (v := ?_) (a' := ?_) #[true,true,true,true,true,true,true,true,true,true,true,false,false,false,false] rfl rfl (any_of HT_.out (by kernel_rfl)) (fun _ _ _ h => h) (Or.inl ⟨by rfl,?_⟩) ?_ ?_
             rotate_left
             ·intro w'
              go_simp
              with_reducible rfl
             rotate_left
             ·simp only [Act.put, List.setIfInBounds_toArray, List.set_cons_zero, List.set_cons_succ, i64_w, i32_w]
              rfl
             refine pure_ (i := 11) (N := some 28) (v := ?_) (a' := ?_) #[true,true,true,true,true,true,true,true,true,true,true,true,false,false,false] rfl rfl (any_of HT_.out (by kernel_rfl)) (fun _ _ _ h => h) (Or.inl ⟨by rfl,?_⟩) ?_ ?_
             rotate_left
             ·intro w'
              go_simp
              with_reducible rfl
             rotate_left
             ·simp only [Act.put, List.setIfInBounds_toArray, List.set_cons_zero, List.set_cons_succ, i64_w, i32_w]
              rfl
             refine one_ (i := 12) (N := some 7) #[true,true,true,true,true,true,true,true,true,true,true,true,true,false,false] rfl rfl (one_of HT_.out (by kernel_rfl)) (by decide) (fun K hK => ?_)
             refine box_step ?hg (N := 7) ?hd (cs := #[.int .i64 0,.int .i64 0,.int .i64 0]) (t := 40) ?hr ?_;(case hd => rfl);(case hg => rfl);(case hr => first|(go_simp;done)|(go_simp;rfl))
             intro gb156 hg w23 hbox hb
             have n0_ := Aside0.mk (Kd.S_below (by (with_reducible repeat (first|apply Kd.S_alloc|apply Kd.S_drewN|apply Kd.S_drew));exact HO_5.out) hb)
             have n1_ := Aside0.mk (below_step (by repeat (first|(with_reducible first|exact HB.out|apply below_alloc|apply pw_below_drewN|apply below_drew1)|exact HB.out)) hb)
             have n2_ := Aside0.mk (hbox)
             have n3_ := Aside0.mk ((by rw [hg];exact (below_size (by repeat (first|(with_reducible first|exact HB.out|apply below_alloc|apply pw_below_drewN|apply below_drew1)|exact HB.out))) : w.heap.size ≤ gb156))
             have n4_ := Aside0.mk ((by rw [hg];exact (below_size (by repeat (first|(with_reducible first|exact HB.out|apply below_alloc|apply pw_below_drewN|apply below_drew1)|exact HB.out))) : w.heap.size ≤ gb156))
             clear HO_5
             clear HB
             have HO_5 := n0_
             have HB := n1_
             have BK156 := n2_
             have GW156 := n3_
             have GE156 := n4_
             clear n0_ n1_ n2_ n3_ n4_
             clear hb hbox hg
             refine hK.out _ _ ⟨((HB.out.cell (World.block_lt_of_cell? w _ hw150_0)).trans hw150_0),((HB.out.cell (World.block_lt_of_cell? w _ hw151_0)).trans hw151_0)⟩ (fun hHeld => ?_)
             clear hK K
             refine norm_ (a' := ?_) ?_ ?_
             rotate_left
             ·show Act.put _ (some 7) _ = _
              simp only [Act.put, List.setIfInBounds_toArray, List.set_cons_zero, List.set_cons_succ, i64_w, i32_w]
              rfl
             exact norm_ (by simp only [putAll,Act.put,List.setIfInBounds_toArray,List.set_cons_zero,List.set_cons_succ]) (hCont (gb156) _ ⟨hHeld,(by (with_reducible repeat (first|apply Kd.S_alloc|apply Kd.S_drewN|apply Kd.S_drew));exact HO_5.out),(by (with_reducible repeat (first|refine blk_drewN ?_ _|refine blk_drew ?_|refine blk_alloc ?_ _));exact BK156.out),GW156.out,GE156.out,(by repeat (first|(with_reducible first|exact HB.out|apply below_alloc|apply pw_below_drewN|apply below_drew1|refine below_set ?_ GE156.out)|exact HB.out))⟩)
            ·skip
             refine box_step ?hg (N := 7) ?hd (cs := #[.int .i64 0,.int .i64 0,.int .i64 0]) (t := 40) ?hr ?_;(case hd => rfl);(case hg => rfl);(case hr => first|(go_simp;done)|(go_simp;rfl))
             intro gb156 hg w22 hbox hb
             have n0_ := Aside0.mk (Kd.S_below (by (with_reducible repeat (first|apply Kd.S_alloc|apply Kd.S_drewN|apply Kd.S_drew));exact HO_5.out) hb)
             have n1_ := Aside0.mk (below_step (by repeat (first|(with_reducible first|exact HB.out|apply below_alloc|apply pw_below_drewN|apply below_drew1)|exact HB.out)) hb)
             have n2_ := Aside0.mk (hbox)
             have n3_ := Aside0.mk ((by rw [hg];exact (below_size (by repeat (first|(with_reducible first|exact HB.out|apply below_alloc|apply pw_below_drewN|apply below_drew1)|exact HB.out))) : w.heap.size ≤ gb156))
             have n4_ := Aside0.mk ((by rw [hg];exact (below_size (by repeat (first|(with_reducible first|exact HB.out|apply below_alloc|apply pw_below_drewN|apply below_drew1)|exact HB.out))) : w.heap.size ≤ gb156))
             clear HO_5
             clear HB
             have HO_5 := n0_
             have HB := n1_
             have BK156 := n2_
             have GW156 := n3_
             have GE156 := n4_
             clear n0_ n1_ n2_ n3_ n4_
             clear hb hbox hg
             refine hK.out _ _ ⟨((HB.out.cell (World.block_lt_of_cell? w _ hw150_0)).trans hw150_0),((HB.out.cell (World.block_lt_of_cell? w _ hw151_0)).trans hw151_0)⟩ (fun hHeld => ?_)
             clear hK K
             refine norm_ (a' := ?_) ?_ ?_
             rotate_left
             ·show Act.put _ (some 7) _ = _
              simp only [Act.put, List.setIfInBounds_toArray, List.set_cons_zero, List.set_cons_succ, i64_w, i32_w]
              rfl
             refine one_ (i := 8) (N := some 26) #[true,true,true,true,true,true,true,true,true,false,false,false,true,false,false] rfl rfl (one_of HT_.out (by kernel_rfl)) (by decide) (fun K hK => ?_)
             refine goes_ Try.func18 (by kernel_rfl) rfl #[.slice A150_0 (rd_L2 l1 x14_1).length c150_0,.slice A151_0 (rd_L2 l0 x14_1).length c151_0] (by rfl) rfl rfl (by (try simp only [List.map_toArray,List.map_cons,List.map_nil]);first|done|rfl|(simp only [List.length_drop,List.length_take];rfl)) ?_
             with_reducible refine (oob_Unpack.calls k1 _ _ (rd_L2 l1 x14_1) _ _ (rd_L2 l0 x14_1) t152 t153 t154 t155 _ ?side1 ?side2 ?side3 ?side4 A8.out).mono ?_
             (case side1 => repeat (first|exact (Kd.C_below HR150_0.out HB.out)|(with_reducible refine Kd.C_alloc ?_ _)|(with_reducible refine Kd.C_drewN ?_ _)|(with_reducible refine Kd.C_drew ?_)))
             (case side2 => exact HC150_0.out)
             (case side3 => repeat (first|exact (Kd.C_below HR151_0.out HB.out)|(with_reducible refine Kd.C_alloc ?_ _)|(with_reducible refine Kd.C_drewN ?_ _)|(with_reducible refine Kd.C_drew ?_)))
             (case side4 => exact HC151_0.out)
             rintro e w23 ⟨rfl, hb⟩
             refine ⟨_, rfl, ?_⟩
             have n0_ := Aside0.mk (Kd.S_below (by (with_reducible repeat (first|apply Kd.S_alloc|apply Kd.S_drewN|apply Kd.S_drew));exact HO_5.out) hb)
             have n1_ := Aside0.mk (blk_below (g := gb156) (o := .cells #[.int .i64 0,.int .i64 0,.int .i64 0] 40 (0,0)) (by (with_reducible repeat (first|refine blk_drewN ?_ _|refine blk_drew ?_|refine blk_alloc ?_ _));exact BK156.out) hb)
             have n2_ := Aside0.mk (below_step (by repeat (first|(with_reducible first|exact HB.out|apply below_alloc|apply pw_below_drewN|apply below_drew1|refine below_set ?_ GE156.out)|exact HB.out)) hb)
             clear HO_5
             clear BK156
             clear HB
             have HO_5 := n0_
             have BK156 := n1_
             have HB := n2_
             clear n0_ n1_ n2_
             (try clear hb)
             (try clear hb2)
             (try clear hk)
             (try clear hi)
             refine hK.out _ _ ⟨((HB.out.cell (World.block_lt_of_cell? w _ hw150_0)).trans hw150_0),((HB.out.cell (World.block_lt_of_cell? w _ hw151_0)).trans hw151_0)⟩ (fun hHeld => ?_)
             clear hK K
             refine norm_ (a' := ?_) ?_ ?_
             rotate_left
             ·show Act.put _ (some 26) _ = _
              simp only [Act.put, List.setIfInBounds_toArray, List.set_cons_zero, List.set_cons_succ, i64_w, i32_w]
              rfl
             refine pure_ (i := 9) (N := some 17) (v := ?_) (a' := ?_) #[true,true,true,true,true,true,true,true,true,true,false,false,true,false,false] rfl rfl (any_of HT_.out (by kernel_rfl)) (fun _ _ _ h => h) (Or.inl ⟨by rfl,?_⟩) ?_ ?_
             rotate_left
             ·intro w'
              go_simp
              with_reducible rfl
             rotate_left
             ·simp only [Act.put, List.setIfInBounds_toArray, List.set_cons_zero, List.set_cons_succ, i64_w, i32_w]
              rfl
             refine pure_ (i := 10) (N := some 27) (v := ?_) (a' := ?_) #[true,true,true,true,true,true,true,true,true,true,true,false,true,false,false] rfl rfl (any_of HT_.out (by kernel_rfl)) (fun _ _ _ h => h) (Or.inl ⟨by rfl,?_⟩) ?_ ?_
             rotate_left
             ·intro w'
              go_simp
              with_reducible rfl
             rotate_left
             ·simp only [Act.put, List.setIfInBounds_toArray, List.set_cons_zero, List.set_cons_succ, i64_w, i32_w]
              rfl
             refine pure_ (i := 11) (N := some 28) (v := ?_) (a' := ?_) #[true,true,true,true,true,true,true,true,true,true,true,true,true,false,false] rfl rfl (any_of HT_.out (by kernel_rfl)) (fun _ _ _ h => h) (Or.inl ⟨by rfl,?_⟩) ?_ ?_
             rotate_left
             ·intro w'
              go_simp
              with_reducible rfl
             rotate_left
             ·simp only [Act.put, List.setIfInBounds_toArray, List.set_cons_zero, List.set_cons_succ, i64_w, i32_w]
              rfl
             exact norm_ (by simp only [putAll,Act.put,List.setIfInBounds_toArray,List.set_cons_zero,List.set_cons_succ]) (hCont (gb156) _ ⟨hHeld,(by (with_reducible repeat (first|apply Kd.S_alloc|apply Kd.S_drewN|apply Kd.S_drew));exact HO_5.out),(by (with_reducible repeat (first|refine blk_drewN ?_ _|refine blk_drew ?_|refine blk_alloc ?_ _));exact BK156.out),GW156.out,GE156.out,(by repeat (first|(with_reducible first|exact HB.out|apply below_alloc|apply pw_below_drewN|apply below_drew1|refine below_set ?_ GE156.out)|exact HB.out))⟩)
           rintro gb156 w24 ⟨hS_, h0_, h1_, h2_, h3_, h4_⟩
           have n0_ : Aside0 (Kd.S k42 42 w24 w.heap.size (fun _ => True) u5 x5_1) := ⟨h0_⟩
           have n1_ : Aside0 (w24.heap[gb156]? = some (.cells #[.int .i64 0,.int .i64 0,.int .i64 0] 40 (0,0))) := ⟨h1_⟩
           have n2_ : Aside0 (w.heap.size ≤ gb156) := ⟨h2_⟩
           have n3_ : Aside0 (w.heap.size ≤ gb156) := ⟨h3_⟩
           have n4_ : Aside0 (Below w.heap.size w w24) := ⟨h4_⟩
           clear HO_5
           clear HB
           clear h0_ h1_ h2_ h3_ h4_
           have HO_5 := n0_
           have BK156 := n1_
           have GW156 := n2_
           have GE156 := n3_
           have HB := n4_
           clear n0_ n1_ n2_ n3_ n4_
           have hHeld : w24.cell? (ad150.add (x14_1).toNat) = some (.slice A150_0 (rd_L2 l1 x14_1).length c150_0) ∧ w24.cell? (ad151.add (x14_1).toNat) = some (.slice A151_0 (rd_L2 l0 x14_1).length c151_0) := hS_
           refine norm_ (a' := ?_) ?_ ?_
           rotate_left
           ·simp only [putAll, Act.put, List.setIfInBounds_toArray, List.set_cons_zero, List.set_cons_succ]
            rfl
           refine one_ (i := 13) (N := none) #[true,true,true,true,true,true,true,true,true,true,true,true,true,true,false] rfl rfl (one_of HT_.out (by kernel_rfl)) (by decide) (fun K hK => ?_)
           have hs25 : w24.cell? ⟨gb156, 0, none⟩ = some (.int .i64 0) := (blk_cell BK156.out 0).trans rfl
           have hfs25 := blk_frozen BK156.out 0
           have hs26 : w24.cell? ⟨gb156, 1, none⟩ = some (.int .i64 0) := (blk_cell BK156.out 1).trans rfl
           have hfs26 := blk_frozen BK156.out 1
           have hs27 : w24.cell? ⟨gb156, 2, none⟩ = some (.int .i64 0) := (blk_cell BK156.out 2).trans rfl
           have hfs27 := blk_frozen BK156.out 2
           refine skip_ (w1 := ?_) (by rfl) rfl ?_ ?_
           rotate_left
           ·go_simp
            rfl
           refine hK.out _ _ ⟨((cell_far (p := ⟨gb156,_,none⟩) (by first|exact Nat.ne_of_lt (Nat.lt_of_lt_of_le (by have := World.block_lt_of_cell? _ _ hw150_0;first|rwa [add_block] at this|exact this) GW156.out)|(rw [add_block];exact Nat.ne_of_lt (Nat.lt_of_lt_of_le (by have := World.block_lt_of_cell? _ _ hw150_0;first|rwa [add_block] at this|exact this) GW156.out))|(show (Addr.add _ _).block ≠ _;rw [add_block];exact Nat.ne_of_lt (Nat.lt_of_lt_of_le (by have := World.block_lt_of_cell? _ _ hw150_0;first|rwa [add_block] at this|exact this) GW156.out))|(dsimp only;exact Nat.ne_of_lt (Nat.lt_of_lt_of_le (by have := World.block_lt_of_cell? _ _ hw150_0;first|rwa [add_block] at this|exact this) GW156.out))) _).trans (((cell_far (p := ⟨gb156,_,none⟩) (by first|exact Nat.ne_of_lt (Nat.lt_of_lt_of_le (by have := World.block_lt_of_cell? _ _ hw150_0;first|rwa [add_block] at this|exact this) GW156.out)|(rw [add_block];exact Nat.ne_of_lt (Nat.lt_of_lt_of_le (by have := World.block_lt_of_cell? _ _ hw150_0;first|rwa [add_block] at this|exact this) GW156.out))|(show (Addr.add _ _).block ≠ _;rw [add_block];exact Nat.ne_of_lt (Nat.lt_of_lt_of_le (by have := World.block_lt_of_cell? _ _ hw150_0;first|rwa [add_block] at this|exact this) GW156.out))|(dsimp only;exact Nat.ne_of_lt (Nat.lt_of_lt_of_le (by have := World.block_lt_of_cell? _ _ hw150_0;first|rwa [add_block] at this|exact this) GW156.out))) _).trans (((cell_far (p := ⟨gb156,_,none⟩) (by first|exact Nat.ne_of_lt (Nat.lt_of_lt_of_le (by have := World.block_lt_of_cell? _ _ hw150_0;first|rwa [add_block] at this|exact this) GW156.out)|(rw [add_block];exact Nat.ne_of_lt (Nat.lt_of_lt_of_le (by have := World.block_lt_of_cell? _ _ hw150_0;first|rwa [add_block] at this|exact this) GW156.out))|(show (Addr.add _ _).block ≠ _;rw [add_block];exact Nat.ne_of_lt (Nat.lt_of_lt_of_le (by have := World.block_lt_of_cell? _ _ hw150_0;first|rwa [add_block] at this|exact this) GW156.out))|(dsimp only;exact Nat.ne_of_lt (Nat.lt_of_lt_of_le (by have := World.block_lt_of_cell? _ _ hw150_0;first|rwa [add_block] at this|exact this) GW156.out))) _).trans (hHeld.1)))))),((cell_far (p := ⟨gb156,_,none⟩) (by first|exact Nat.ne_of_lt (Nat.lt_of_lt_of_le (by have := World.block_lt_of_cell? _ _ hw151_0;first|rwa [add_block] at this|exact this) GW156.out)|(rw [add_block];exact Nat.ne_of_lt (Nat.lt_of_lt_of_le (by have := World.block_lt_of_cell? _ _ hw151_0;first|rwa [add_block] at this|exact this) GW156.out))|(show (Addr.add _ _).block ≠ _;rw [add_block];exact Nat.ne_of_lt (Nat.lt_of_lt_of_le (by have := World.block_lt_of_cell? _ _ hw151_0;first|rwa [add_block] at this|exact this) GW156.out))|(dsimp only;exact Nat.ne_of_lt (Nat.lt_of_lt_of_le (by have := World.block_lt_of_cell? _ _ hw151_0;first|rwa [add_block] at this|exact this) GW156.out))) _).trans (((cell_far (p := ⟨gb156,_,none⟩) (by first|exact Nat.ne_of_lt (Nat.lt_of_lt_of_le (by have := World.block_lt_of_cell? _ _ hw151_0;first|rwa [add_block] at this|exact this) GW156.out)|(rw [add_block];exact Nat.ne_of_lt (Nat.lt_of_lt_of_le (by have := World.block_lt_of_cell? _ _ hw151_0;first|rwa [add_block] at this|exact this) GW156.out))|(show (Addr.add _ _).block ≠ _;rw [add_block];exact Nat.ne_of_lt (Nat.lt_of_lt_of_le (by have := World.block_lt_of_cell? _ _ hw151_0;first|rwa [add_block] at this|exact this) GW156.out))|(dsimp only;exact Nat.ne_of_lt (Nat.lt_of_lt_of_le (by have := World.block_lt_of_cell? _ _ hw151_0;first|rwa [add_block] at this|exact this) GW156.out))) _).trans (((cell_far (p := ⟨gb156,_,none⟩) (by first|exact Nat.ne_of_lt (Nat.lt_of_lt_of_le (by have := World.block_lt_of_cell? _ _ hw151_0;first|rwa [add_block] at this|exact this) GW156.out)|(rw [add_block];exact Nat.ne_of_lt (Nat.lt_of_lt_of_le (by have := World.block_lt_of_cell? _ _ hw151_0;first|rwa [add_block] at this|exact this) GW156.out))|(show (Addr.add _ _).block ≠ _;rw [add_block];exact Nat.ne_of_lt (Nat.lt_of_lt_of_le (by have := World.block_lt_of_cell? _ _ hw151_0;first|rwa [add_block] at this|exact this) GW156.out))|(dsimp only;exact Nat.ne_of_lt (Nat.lt_of_lt_of_le (by have := World.block_lt_of_cell? _ _ hw151_0;first|rwa [add_block] at this|exact this) GW156.out))) _).trans (hHeld.2))))))⟩ (fun hHeld => ?_)
           clear hK K
           refine pure_ (i := 14) (N := some 8) (v := ?_) (a' := ?_) #[true,true,true,true,true,true,true,true,true,true,true,true,true,true,true] rfl rfl (any_of HT_.out (by kernel_rfl)) (fun _ _ _ h => h) (Or.inl ⟨by rfl,?_⟩) ?_ ?_
           rotate_left
           ·intro w'
            go_simp
            with_reducible rfl
           rotate_left
           ·simp only [Act.put, List.setIfInBounds_toArray, List.set_cons_zero, List.set_cons_succ, i64_w, i32_w]
            rfl
           refine done_ (done_of HT_.out (by kernel_rfl)) ?_
           have hcz28_0 : w24.cell? ⟨gb156, 0, none⟩ = some (.int .i64 0) := (blk_cell BK156.out 0).trans rfl
           have hcz28_1 : w24.cell? ⟨gb156, 1, none⟩ = some (.int .i64 0) := (blk_cell BK156.out 1).trans rfl
           have hcz28_2 : w24.cell? ⟨gb156, 2, none⟩ = some (.int .i64 0) := (blk_cell BK156.out 2).trans rfl
           have hfz28_0 := blk_frozen BK156.out 0
           have hfz28_1 := blk_frozen BK156.out 1
           have hfz28_2 := blk_frozen BK156.out 2
           try go_wp2
           have n0_ : Aside0 (Kd.S k42 42 (((w24.setCell ⟨gb156,0,none⟩ (.int .i64 t152)).setCell ⟨gb156,1,none⟩ (.int .i64 t153)).setCell ⟨gb156,2,none⟩ (.int .i64 t154)) w.heap.size (fun _ => True) u5 x5_1) := ⟨by (with_reducible repeat (first|apply Kd.S_alloc|apply Kd.S_drewN|apply Kd.S_drew));exact Kd.S_mono (Kd.S_far (p := ⟨gb156,2,none⟩) (Kd.S_far (p := ⟨gb156,1,none⟩) (Kd.S_far (p := ⟨gb156,0,none⟩) (Kd.S_types HO_5.out BK156.out (by decide)) (fun _ hk => hk.2) (.int .i64 t152)) (fun _ hk => hk.2) (.int .i64 t153)) (fun _ hk => hk.2) (.int .i64 t154)) (fun _ hk => trivial)⟩
           have n1_ : Aside0 ((((w24.setCell ⟨gb156,0,none⟩ (.int .i64 t152)).setCell ⟨gb156,1,none⟩ (.int .i64 t153)).setCell ⟨gb156,2,none⟩ (.int .i64 t154)).heap[gb156]? = some (.cells #[.int .i64 t152,.int .i64 t153,.int .i64 t154] 40 (0,0))) := ⟨by (with_reducible repeat (first|refine blk_drewN ?_ _|refine blk_drew ?_|refine blk_alloc ?_ _));refine blk_put (cs := #[.int .i64 t152,.int .i64 t153,.int .i64 0]) ?_ 2 _ rfl;(with_reducible repeat (first|refine blk_drewN ?_ _|refine blk_drew ?_|refine blk_alloc ?_ _));refine blk_put (cs := #[.int .i64 t152,.int .i64 0,.int .i64 0]) ?_ 1 _ rfl;(with_reducible repeat (first|refine blk_drewN ?_ _|refine blk_drew ?_|refine blk_alloc ?_ _));refine blk_put (cs := #[.int .i64 0,.int .i64 0,.int .i64 0]) ?_ 0 _ rfl;(with_reducible repeat (first|refine blk_drewN ?_ _|refine blk_drew ?_|refine blk_alloc ?_ _));exact BK156.out⟩
           have n2_ : Aside0 (Below w.heap.size w (((w24.setCell ⟨gb156,0,none⟩ (.int .i64 t152)).setCell ⟨gb156,1,none⟩ (.int .i64 t153)).setCell ⟨gb156,2,none⟩ (.int .i64 t154))) := ⟨by repeat (first|(with_reducible first|exact HB.out|apply below_alloc|apply pw_below_drewN|apply below_drew1|refine below_set ?_ GE156.out)|exact HB.out)⟩
           (try clear HO_5)
           (try clear BK156)
           (try clear HB)
           (try simp only [IntKind.wrap_u8, IntKind.wrap_u32])
           generalize (((w24.setCell ⟨gb156,0,none⟩ (.int .i64 t152)).setCell ⟨gb156,1,none⟩ (.int .i64 t153)).setCell ⟨gb156,2,none⟩ (.int .i64 t154)) = w29 at n0_ n1_ n2_ ⊢
           have HO_5 := n0_
           have BK156 := n1_
           have HB := n2_
           clear n0_ n1_ n2_
           (try (rw [drewN_self w29];generalize hq_ : World.drewN w29 _ = w29;have n0_ : Aside0 (Kd.S k42 42 w29 w.heap.size (fun _ => True) u5 x5_1) := ⟨by rw [← hq_];exact (by (with_reducible repeat (first|apply Kd.S_alloc|apply Kd.S_drewN|apply Kd.S_drew));exact HO_5.out)⟩;have n1_ : Aside0 (w29.heap[gb156]? = some (.cells #[.int .i64 t152,.int .i64 t153,.int .i64 t154] 40 (0,0))) := ⟨by rw [← hq_];exact (by (with_reducible repeat (first|refine blk_drewN ?_ _|refine blk_drew ?_|refine blk_alloc ?_ _));exact BK156.out)⟩;have n2_ : Aside0 (Below w.heap.size w w29) := ⟨by rw [← hq_];exact (by repeat (first|(with_reducible first|exact HB.out|apply below_alloc|apply pw_below_drewN|apply below_drew1|refine below_set ?_ GE156.out)|exact HB.out))⟩;clear HO_5 BK156 HB hq_;have HO_5 := n0_;have BK156 := n1_;have HB := n2_;clear n0_ n1_ n2_))
           have n0_ := Aside0.mk (Kd.S_drew HO_5.out)
           have n1_ := Aside0.mk (blk_drew BK156.out)
           have n2_ := Aside0.mk (below_drew1 HB.out)
           clear HO_5
           clear BK156
           clear HB
           have HO_5 := n0_
           have BK156 := n1_
           have HB := n2_
           clear n0_ n1_ n2_
           have p160 : 0 ≤ (x14_1 : Int) := of_decide_eq_true (by first | (with_reducible assumption) | assumption)
           have q160 : x14_1 < (l0.length : Int) := of_decide_eq_true (by first|(with_reducible assumption)|assumption)
           obtain ⟨ad160, A160_0, c160_0, e160, hx160_0, hl160_0, hi160_0⟩ := at_L2 HR0.out x14_1 p160 q160
           have hw160_0 := hx160_0
           obtain rfl : ad151 = ad160 := (by injection e160)
           replace hx160_0 := (HB.out.cell (World.block_lt_of_cell? w _ hx160_0)).trans hx160_0
           have HR160_0 := Aside0.mk hi160_0
           have HC160_0 := Aside0.mk hl160_0
           clear hi160_0 hl160_0
           replace p160 := eq_true p160
           replace q160 := eq_true q160
           refine start_ (n := 13) (S := fun w' => w'.cell? ⟨gb156,0,none⟩ = some (.int .i64 t152) ∧ w'.cell? ⟨gb156,1,none⟩ = some (.int .i64 t153) ∧ w'.cell? ⟨gb156,2,none⟩ = some (.int .i64 t154) ∧ w'.cell? (ad151.add (x14_1).toNat) = some (.slice A160_0 (rd_L2 l0 x14_1).length c160_0)) (ds := []) #[false,false,false,false,false,false,false,false,false,false,false,false,false] (by kernel_rfl) rfl rfl ⟨(blk_cell BK156.out 0).trans rfl,(blk_cell BK156.out 1).trans rfl,(blk_cell BK156.out 2).trans rfl,((HB.out.cell (World.block_lt_of_cell? w _ hw160_0)).trans hw160_0)⟩ (fun hHeld => ?_);refine with_tabW page_Read.tab7 page_Read.bits7 (fun HT_ HW_ => ?_)
           generalize w29.drew = w30 at HO_5 BK156 HB HR160_0 hx160_0 hHeld ⊢
           refine pure_ (i := 0) (N := some 36) (v := ?_) (a' := ?_) #[true,false,false,false,false,false,false,false,false,false,false,false,false] rfl rfl (any_of HT_.out (by kernel_rfl)) (fun _ _ _ h => h) (Or.inl ⟨by rfl,?_⟩) ?_ ?_
           rotate_left
           ·intro w'
            go_simp
            with_reducible rfl
           rotate_left
           ·simp only [Act.put, List.setIfInBounds_toArray, List.set_cons_zero, List.set_cons_succ, i64_w, i32_w]
            rfl
           refine pure_ (i := 1) (N := some 37) (v := ?_) (a' := ?_) #[true,true,false,false,false,false,false,false,false,false,false,false,false] rfl rfl (any_of HT_.out (by kernel_rfl)) (fun _ _ _ h => h) (Or.inl ⟨by rfl,?_⟩) ?_ ?_
           rotate_left
           ·intro w'
            go_simp
            with_reducible rfl
           rotate_left
           ·simp only [Act.put, List.setIfInBounds_toArray, List.set_cons_zero, List.set_cons_succ, i64_w, i32_w]
            rfl
           refine pure_ (i := 4) (N := some 40) (v := ?_) (a' := ?_) #[true,true,false,false,true,false,false,false,false,false,false,false,false] rfl rfl (any_of HT_.out (by kernel_rfl)) (fun _ _ _ h => h) (Or.inl ⟨by rfl,?_⟩) ?_ ?_
           rotate_left
           ·intro w'
            go_simp
            with_reducible rfl
           rotate_left
           ·simp only [Act.put, List.setIfInBounds_toArray, List.set_cons_zero, List.set_cons_succ, i64_w, i32_w]
            rfl
           refine pure_ (i := 5) (N := some 41) (v := ?_) (a' := ?_) #[true,true,false,false,true,true,false,false,false,false,false,false,false] rfl rfl (any_of HT_.out (by kernel_rfl)) (fun _ _ _ h => h) (Or.inl ⟨by rfl,?_⟩) ?_ ?_
           rotate_left
           ·intro w'
            go_simp
            with_reducible rfl
           rotate_left
           ·simp only [Act.put, List.setIfInBounds_toArray, List.set_cons_zero, List.set_cons_succ, i64_w, i32_w]
            rfl
           refine pure_ (i := 6) (N := some 42) (v := ?_) (a' := ?_) #[true,true,false,false,true,true,true,false,false,false,false,false,false] rfl rfl (any_of HT_.out (by kernel_rfl)) (fun _ _ _ h => h) (Or.inl ⟨by rfl,?_⟩) ?_ ?_
           rotate_left
           ·intro w'
            go_simp
            with_reducible rfl
           rotate_left
           ·simp only [Act.put, List.setIfInBounds_toArray, List.set_cons_zero, List.set_cons_succ, i64_w, i32_w]
            rfl
           refine take_ (i := 2) (N := some 38) (v := ?_) (a' := ?_) #[true,true,true,false,true,true,true,false,false,false,false,false,false] rfl rfl (take_ofW HT_.out HW_.out (by kernel_rfl)) (fun _ _ _ h => h) (Or.inl ⟨by rfl,?_⟩) hHeld ?_ ?_
           rotate_left
           ·rintro w' ⟨s0, s1, s2, s3⟩
            go_simp
            with_reducible rfl
           rotate_left
           ·simp only [Act.put, List.setIfInBounds_toArray, List.set_cons_zero, List.set_cons_succ, i64_w, i32_w]
            rfl
           refine take_ (i := 7) (N := some 43) (v := ?_) (a' := ?_) #[true,true,true,false,true,true,true,true,false,false,false,false,false] rfl rfl (take_ofW HT_.out HW_.out (by kernel_rfl)) (fun _ _ _ h => h) (Or.inl ⟨by rfl,?_⟩) hHeld ?_ ?_
           rotate_left
           ·rintro w' ⟨s0, s1, s2, s3⟩
            go_simp
            with_reducible rfl
           rotate_left
           ·simp only [Act.put, List.setIfInBounds_toArray, List.set_cons_zero, List.set_cons_succ, i64_w, i32_w]
            rfl
           refine one_ (i := 3) (N := some 39) #[true,true,true,true,true,true,true,true,false,false,false,false,false] rfl rfl (one_of HT_.out (by kernel_rfl)) (by decide) (fun K hK => ?_)
           refine Kd.R_lit_step (Kd.int .u8) _ 5 ?hg (N := 39) ?hd (xs := ([] : List Int)) (inner := []) (ok := fun _ => True) (okp := fun _ => True) ?hr ?hp (fun _ hk => hk) trivial (Below.refl _ _) (Nat.le_refl _) (by simp) ?_;(case hd => rfl);(case hg => rfl);(case hr => first|(go_simp;done)|(go_simp;rfl));(case hp => exact (Reps.none _ _))
           intro v158 w31 ho32 hb hg_ hnew_
           clear hg_ hnew_
           (first | rw [← Ny157.out] at ho32 | (simp only [Int.reduceToNat] at ho32; rw [← Ny157.out] at ho32))
           have n0_ := Aside0.mk (Kd.S_elder' (by (with_reducible repeat (first|apply Kd.S_alloc|apply Kd.S_drewN|apply Kd.S_drew));exact HO_5.out) (Kd.R_base ho32) hb)
           have n1_ := Aside0.mk (Kd.R_lower ho32 (below_size (by repeat (first|(with_reducible first|exact HB.out|apply below_alloc|apply pw_below_drewN|apply below_drew1|refine below_set ?_ GE156.out)|exact HB.out))))
           have n2_ := Aside0.mk (blk_below (g := gb156) (o := .cells #[.int .i64 t152,.int .i64 t153,.int .i64 t154] 40 (0,0)) (by (with_reducible repeat (first|refine blk_drewN ?_ _|refine blk_drew ?_|refine blk_alloc ?_ _));exact BK156.out) hb)
           have n3_ := Aside0.mk (below_step (by repeat (first|(with_reducible first|exact HB.out|apply below_alloc|apply pw_below_drewN|apply below_drew1|refine below_set ?_ GE156.out)|exact HB.out)) hb)
           clear HO_5
           clear BK156
           clear HB
           have HO_5 := n0_
           have HO159 := n1_
           have BK156 := n2_
           have HB := n3_
           clear n0_ n1_ n2_ n3_
           clear hb ho32
           refine hK.out _ _ ⟨(blk_cell BK156.out 0).trans rfl,(blk_cell BK156.out 1).trans rfl,(blk_cell BK156.out 2).trans rfl,((HB.out.cell (World.block_lt_of_cell? w _ hw160_0)).trans hw160_0)⟩ (fun hHeld => ?_)
           clear hK K
           refine norm_ (a' := ?_) ?_ ?_
           rotate_left
           ·show Act.put _ (some 39) _ = _
            simp only [Act.put, List.setIfInBounds_toArray, List.set_cons_zero, List.set_cons_succ, i64_w, i32_w]
            rfl
           refine one_ (i := 8) (N := some 44) #[true,true,true,true,true,true,true,true,true,false,false,false,false] rfl rfl (one_of HT_.out (by kernel_rfl)) (by decide) (fun K hK => ?_)
           refine Kd.R_append_rows_step (Kd.int .u8) (w0 := w) w.heap.size (by rfl) (.tmp 39) (.tmp 43) 36 5 (.int .u8 0) 1 rfl Try.underlying36 info5 rfl (by decide) (by omega) v158 y157 (rd_L2 l0 x14_1) _ _ _ (fun _ => True) (fun _ => False) rfl rfl ?aO ?aR (fun _ _ h => h) (fun _ h => h.elim) ?aF ?aB ?aS ?aL ?_
           (case aR => repeat (first|exact (Kd.C_below HR160_0.out HB.out)|(with_reducible refine Kd.C_alloc ?_ _)|(with_reducible refine Kd.C_drewN ?_ _)|(with_reducible refine Kd.C_drew ?_)))
           (case aB => exact (by repeat (first|(with_reducible first|exact HB.out|apply below_alloc|apply pw_below_drewN|apply below_drew1|refine below_set ?_ GE156.out)|exact HB.out)))
           (case aF => exact (fun _ _ => trivial))
           (case aO => exact (by (with_reducible repeat (first|apply Kd.R_alloc|apply Kd.R_drewN|apply Kd.R_drew));exact HO159.out))
           (case aS => exact (below_size (by repeat (first|(with_reducible first|exact HB.out|apply below_alloc|apply pw_below_drewN|apply below_drew1|refine below_set ?_ GE156.out)|exact HB.out))))
           (case aL => have := LMc19.out; omega)
           intro v162 w33 ho hb hg hat
           rw [← Ny161.out] at ho
           have n0_ := Aside0.mk (Kd.S_after (ok := (fun _ => True)) (by (with_reducible repeat (first|apply Kd.S_alloc|apply Kd.S_drewN|apply Kd.S_drew));exact HO_5.out) hg hat)
           have n1_ := Aside0.mk (blk_grown (g := gb156) (o := .cells #[.int .i64 t152,.int .i64 t153,.int .i64 t154] 40 (0,0)) (by (with_reducible repeat (first|refine blk_drewN ?_ _|refine blk_drew ?_|refine blk_alloc ?_ _));exact BK156.out) hg (Kd.R_ne HO159.out BK156.out (by decide)))
           have n2_ := Aside0.mk (hb)
           have n3_ := Aside0.mk (ho)
           clear HO_5
           clear BK156
           clear HB
           clear HO159
           have HO_5 := n0_
           have BK156 := n1_
           have HB := n2_
           have HO163 := n3_
           clear n0_ n1_ n2_ n3_
           clear ho hb hg hat
           obtain ⟨Ao34, co34, eo34⟩ := Kd.R_slice HO163.out
           (first|subst eo34|(injection eo34 with f1_ f2_ f3_;have f4_ := f1_.symm;have f5_ := f3_.symm;clear f1_ f2_ f3_;subst f4_;subst f5_))
           refine hK.out _ _ ⟨(blk_cell BK156.out 0).trans rfl,(blk_cell BK156.out 1).trans rfl,(blk_cell BK156.out 2).trans rfl,((HB.out.cell (World.block_lt_of_cell? w _ hw160_0)).trans hw160_0)⟩ (fun hHeld => ?_)
           clear hK K
           refine norm_ (a' := ?_) ?_ ?_
           rotate_left
           ·show Act.put _ (some 44) _ = _
            simp only [Act.put, List.setIfInBounds_toArray, List.set_cons_zero, List.set_cons_succ, i64_w, i32_w]
            rfl
           refine pure_ (i := 9) (N := some 45) (v := ?_) (a' := ?_) #[true,true,true,true,true,true,true,true,true,true,false,false,false] rfl rfl (any_of HT_.out (by kernel_rfl)) (fun _ _ _ h => h) (Or.inl ⟨by rfl,?_⟩) ?_ ?_
           rotate_left
           ·intro w'
            go_simp
            with_reducible rfl
           rotate_left
           ·simp only [Act.put, List.setIfInBounds_toArray, List.set_cons_zero, List.set_cons_succ, i64_w, i32_w]
            rfl
           refine one_ (i := 10) (N := some 46) #[true,true,true,true,true,true,true,true,true,true,true,false,false] rfl rfl (one_of HT_.out (by kernel_rfl)) (by decide) (fun K hK => ?_)
           refine value_ (w1 := ?_) (v := ?_) (by rfl) rfl ?_ ?_
           rotate_left 2
           ·go_simp
            constructor
            ·rfl
            ·rfl
           refine hK.out _ _ ⟨(blk_cell (blk_alloc BK156.out _) 0).trans rfl,(blk_cell (blk_alloc BK156.out _) 1).trans rfl,(blk_cell (blk_alloc BK156.out _) 2).trans rfl,(World.cell?_alloc_lt _ _ _ (World.block_lt_of_cell? _ _ (((HB.out.cell (World.block_lt_of_cell? w _ hw160_0)).trans hw160_0)))).trans (((HB.out.cell (World.block_lt_of_cell? w _ hw160_0)).trans hw160_0))⟩ (fun hHeld => ?_)
           clear hK K
           refine norm_ (a' := ?_) ?_ ?_
           rotate_left
           ·show Act.put _ (some 46) _ = _
            simp only [Act.put, List.setIfInBounds_toArray, List.set_cons_zero, List.set_cons_succ, i64_w, i32_w]
            rfl
           refine one_ (i := 11) (N := some 47) #[true,true,true,true,true,true,true,true,true,true,true,true,false] rfl rfl (one_of HT_.out (by kernel_rfl)) (by decide) (fun K hK => ?_)
           refine Kd.S_append_step k42 (w0 := w) w.heap.size (by rfl) (.tmp 36) (.tmp 46) 34 42 (.agg #[(.int .i64 0),(.int .i64 0),(.int .i64 0),(.int .i64 0),(.slice none 0 0)]) 56 rfl Try.underlying34 info42 rfl (by decide) (by omega) u5 x5_1 (⟨x14_1,(⟨t152,t153,t154⟩ : S40),y161⟩ : S42) [.int .i64 x14_1,.int .i64 t152,.int .i64 t153,.int .i64 t154,.slice Ao34 y161.length co34] (fun _ => True) (fun k_ => some k_ = (.slice Ao34 y161.length co34 : Value).ownBlock) rfl rfl ?aP (fun k_ hk_ => ((Kd.R_mono (ok' := fun k_ => ((fun _ => True)) k_ ∧ some k_ ≠ (u5 : Value).ownBlock) (Kd.R_apart' (HO163.out) (Kd.S_typed HO_5.out) (by decide)) (fun k_ hk => ⟨trivial,hk.2⟩))).1 k_ hk_.symm) ?aF ?aO ?aB ?aS ?aL ?_
           (case aP => exact k42_mkM _ _ _ (⟨x14_1,(⟨t152,t153,t154⟩ : S40),y161⟩ : S42) (Kd.R_mono (Kd.R_tight rfl (Kd.R_mono (ok' := fun k_ => ((fun _ => True)) k_ ∧ some k_ ≠ (u5 : Value).ownBlock) (Kd.R_apart' (HO163.out) (Kd.S_typed HO_5.out) (by decide)) (fun k_ hk => ⟨trivial,hk.2⟩))) (fun _ h_ => h_)))
           (case aB => exact (by repeat (first|(with_reducible first|exact HB.out|apply below_alloc|apply pw_below_drewN|apply below_drew1|refine below_set ?_ GE156.out)|exact HB.out)))
           (case aF => exact (fun _ _ => trivial))
           (case aO => exact (by (with_reducible repeat (first|apply Kd.S_alloc|apply Kd.S_drewN|apply Kd.S_drew));exact Kd.S_mono HO_5.out (fun k_ hk => ⟨trivial,fun e_ => hk.2 e_⟩)))
           (case aS => exact (below_size (by repeat (first|(with_reducible first|exact HB.out|apply below_alloc|apply pw_below_drewN|apply below_drew1|refine below_set ?_ GE156.out)|exact HB.out))))
           (case aL => have := LMc20.out; omega)
           intro v165 w35 ho hb hg hat
           rw [← Ny164.out] at ho
           have n0_ := Aside0.mk (blk_grown (g := gb156) (o := .cells #[.int .i64 t152,.int .i64 t153,.int .i64 t154] 40 (0,0)) (by (with_reducible repeat (first|refine blk_drewN ?_ _|refine blk_drew ?_|refine blk_alloc ?_ _));exact BK156.out) hg (Kd.S_ne HO_5.out BK156.out (by decide)))
           have n1_ := Aside0.mk (hb)
           have n2_ := Aside0.mk (ho)
           clear BK156
           clear HB
           clear HO_5
           clear HO163
           have BK156 := n0_
           have HB := n1_
           have HO166 := n2_
           clear n0_ n1_ n2_
           clear ho hb hg hat
           refine hK.out _ _ ⟨(blk_cell BK156.out 0).trans rfl,(blk_cell BK156.out 1).trans rfl,(blk_cell BK156.out 2).trans rfl,((HB.out.cell (World.block_lt_of_cell? w _ hw160_0)).trans hw160_0)⟩ (fun hHeld => ?_)
           clear hK K
           refine norm_ (a' := ?_) ?_ ?_
           rotate_left
           ·show Act.put _ (some 47) _ = _
            simp only [Act.put, List.setIfInBounds_toArray, List.set_cons_zero, List.set_cons_succ, i64_w, i32_w]
            rfl
           refine pure_ (i := 12) (N := some 5) (v := ?_) (a' := ?_) #[true,true,true,true,true,true,true,true,true,true,true,true,true] rfl rfl (any_of HT_.out (by kernel_rfl)) (fun _ _ _ h => h) (Or.inl ⟨by rfl,?_⟩) ?_ ?_
           rotate_left
           ·intro w'
            go_simp
            with_reducible rfl
           rotate_left
           ·simp only [Act.put, List.setIfInBounds_toArray, List.set_cons_zero, List.set_cons_succ, i64_w, i32_w]
            rfl
           refine done_ (done_of HT_.out (by kernel_rfl)) ?_
           try go_wp2
           go_roundg k1
           case measure => have := HK1.out; omega
           case rel => exact ⟨(y164),(wrap64 (x14_1 + 1)),(by first|rfl|(simp;done)|(simp [*];done)),H',⟨by have := HK1.out;omega⟩,⟨by (with_reducible repeat (first|apply Kd.S_alloc|apply Kd.S_drewN|apply Kd.S_drew));exact HO166.out⟩,⟨by repeat (first|(with_reducible first|exact HB.out|apply below_alloc|apply pw_below_drewN|apply below_drew1|refine below_set ?_ GE156.out)|exact HB.out)⟩⟩
          ·rw [if_neg c20] at H
           exact absurd H (by simp)
         ·rw [if_neg c19] at H
          exact absurd H (by simp)
       ·rw [if_neg c9] at H
        have c9b0 : (t155 == 0) = false := beq_eq_false_iff_ne.mpr c9
        have c9b1 : (t155 != 0) = true := bne_iff_ne.mpr c9
        have H' := Aside0.mk H
        clear H
        try go_wp2
        (try (rw [drewN_self wr];generalize hq_ : World.drewN wr _ = wr;have n0_ : Aside0 (Kd.S k42 42 wr w.heap.size (fun _ => True) u5 x5_1) := ⟨by rw [← hq_];exact (by (with_reducible repeat (first|apply Kd.S_alloc|apply Kd.S_drewN|apply Kd.S_drew));exact HO_5.out)⟩;have n1_ : Aside0 (Below w.heap.size w wr) := ⟨by rw [← hq_];exact (by repeat (first|(with_reducible first|exact HB.out|apply below_alloc|apply pw_below_drewN|apply below_drew1)|exact HB.out))⟩;clear HO_5 HB hq_;have HO_5 := n0_;have HB := n1_;clear n0_ n1_))
        have n0_ := Aside0.mk (Kd.S_drew HO_5.out)
        have n1_ := Aside0.mk (below_drew1 HB.out)
        clear HO_5
        clear HB
        have HO_5 := n0_
        have HB := n1_
        clear n0_ n1_
        have p150 : 0 ≤ (x14_1 : Int) := of_decide_eq_true (by first | (with_reducible assumption) | assumption)
        have q150 : x14_1 < (l1.length : Int) := of_decide_eq_true (by first | (with_reducible assumption) | assumption)
        obtain ⟨ad150, A150_0, c150_0, e150, hx150_0, hl150_0, hi150_0⟩ := at_L2 HR1.out x14_1 p150 q150
        have hw150_0 := hx150_0
        cases e150
        replace hx150_0 := (HB.out.cell (World.block_lt_of_cell? w _ hx150_0)).trans hx150_0
        have HR150_0 := Aside0.mk hi150_0
        have HC150_0 := Aside0.mk hl150_0
        clear hi150_0 hl150_0
        replace p150 := eq_true p150
        replace q150 := eq_true q150
        have p151 : 0 ≤ (x14_1 : Int) := of_decide_eq_true (by first | (with_reducible assumption) | assumption)
        have q151 : x14_1 < (l0.length : Int) := of_decide_eq_true (by first | (with_reducible assumption) | assumption)
        obtain ⟨ad151, A151_0, c151_0, e151, hx151_0, hl151_0, hi151_0⟩ := at_L2 HR0.out x14_1 p151 q151
        have hw151_0 := hx151_0
        cases e151
        replace hx151_0 := (HB.out.cell (World.block_lt_of_cell? w _ hx151_0)).trans hx151_0
        have HR151_0 := Aside0.mk hi151_0
        have HC151_0 := Aside0.mk hl151_0
        clear hi151_0 hl151_0
        replace p151 := eq_true p151
        replace q151 := eq_true q151
        refine start_ (n := 15) (S := fun w' => w'.cell? (ad150.add (x14_1).toNat) = some (.slice A150_0 (rd_L2 l1 x14_1).length c150_0) ∧ w'.cell? (ad151.add (x14_1).toNat) = some (.slice A151_0 (rd_L2 l0 x14_1).length c151_0)) (ds := []) #[false,false,false,false,false,false,false,false,false,false,false,false,false,false,false] (by kernel_rfl) rfl rfl ⟨((HB.out.cell (World.block_lt_of_cell? w _ hw150_0)).trans hw150_0),((HB.out.cell (World.block_lt_of_cell? w _ hw151_0)).trans hw151_0)⟩ (fun hHeld => ?_);refine with_tabW page_Read.tab5 page_Read.bits5 (fun HT_ HW_ => ?_)
        generalize wr.drew = w36 at HO_5 HB HR150_0 HR151_0 hx150_0 hx151_0 hHeld ⊢
        refine pure_ (i := 0) (N := some 18) (v := ?_) (a' := ?_) #[true,false,false,false,false,false,false,false,false,false,false,false,false,false,false] rfl rfl (any_of HT_.out (by kernel_rfl)) (fun _ _ _ h => h) (Or.inl ⟨by rfl,?_⟩) ?_ ?_
        rotate_left
        ·intro w'
         go_simp
         with_reducible rfl
        rotate_left
        ·simp only [Act.put, List.setIfInBounds_toArray, List.set_cons_zero, List.set_cons_succ, i64_w, i32_w]
         rfl
        refine pure_ (i := 1) (N := some 19) (v := ?_) (a' := ?_) #[true,true,false,false,false,false,false,false,false,false,false,false,false,false,false] rfl rfl (any_of HT_.out (by kernel_rfl)) (fun _ _ _ h => h) (Or.inl ⟨by rfl,?_⟩) ?_ ?_
        rotate_left
        ·intro w'
         go_simp
         with_reducible rfl
        rotate_left
        ·simp only [Act.put, List.setIfInBounds_toArray, List.set_cons_zero, List.set_cons_succ, i64_w, i32_w]
         rfl
        refine pure_ (i := 2) (N := some 20) (v := ?_) (a' := ?_) #[true,true,true,false,false,false,false,false,false,false,false,false,false,false,false] rfl rfl (any_of HT_.out (by kernel_rfl)) (fun _ _ _ h => h) (Or.inl ⟨by rfl,?_⟩) ?_ ?_
        rotate_left
        ·intro w'
         go_simp
         with_reducible rfl
        rotate_left
        ·simp only [Act.put, List.setIfInBounds_toArray, List.set_cons_zero, List.set_cons_succ, i64_w, i32_w]
         rfl
        refine pure_ (i := 4) (N := some 22) (v := ?_) (a' := ?_) #[true,true,true,false,true,false,false,false,false,false,false,false,false,false,false] rfl rfl (any_of HT_.out (by kernel_rfl)) (fun _ _ _ h => h) (Or.inl ⟨by rfl,?_⟩) ?_ ?_
        rotate_left
        ·intro w'
         go_simp
         with_reducible rfl
        rotate_left
        ·simp only [Act.put, List.setIfInBounds_toArray, List.set_cons_zero, List.set_cons_succ, i64_w, i32_w]
         rfl
        refine pure_ (i := 5) (N := some 23) (v := ?_) (a' := ?_) #[true,true,true,false,true,true,false,false,false,false,false,false,false,false,false] rfl rfl (any_of HT_.out (by kernel_rfl)) (fun _ _ _ h => h) (Or.inl ⟨by rfl,?_⟩) ?_ ?_
        rotate_left
        ·intro w'
         go_simp
         with_reducible rfl
        rotate_left
        ·simp only [Act.put, List.setIfInBounds_toArray, List.set_cons_zero, List.set_cons_succ, i64_w, i32_w]
         rfl
        refine pure_ (i := 6) (N := some 24) (v := ?_) (a' := ?_) #[true,true,true,false,true,true,true,false,false,false,false,false,false,false,false] rfl rfl (any_of HT_.out (by kernel_rfl)) (fun _ _ _ h => h) (Or.inl ⟨by rfl,?_⟩) ?_ ?_
        rotate_left
        ·intro w'
         go_simp
         with_reducible rfl
        rotate_left
        ·simp only [Act.put, List.setIfInBounds_toArray, List.set_cons_zero, List.set_cons_succ, i64_w, i32_w]
         rfl
        refine take_ (i := 3) (N := some 21) (v := ?_) (a' := ?_) #[true,true,true,true,true,true,true,false,false,false,false,false,false,false,false] rfl rfl (take_ofW HT_.out HW_.out (by kernel_rfl)) (fun _ _ _ h => h) (Or.inl ⟨by rfl,?_⟩) hHeld ?_ ?_
        rotate_left
        ·rintro w' ⟨s0, s1⟩
         go_simp
         with_reducible rfl
        rotate_left
        ·simp only [Act.put, List.setIfInBounds_toArray, List.set_cons_zero, List.set_cons_succ, i64_w, i32_w]
         rfl
        refine take_ (i := 7) (N := some 25) (v := ?_) (a' := ?_) #[true,true,true,true,true,true,true,true,false,false,false,false,false,false,false] rfl rfl (take_ofW HT_.out HW_.out (by kernel_rfl)) (fun _ _ _ h => h) (Or.inl ⟨by rfl,?_⟩) hHeld ?_ ?_
        rotate_left
        ·rintro w' ⟨s0, s1⟩
         go_simp
         with_reducible rfl
        rotate_left
        ·simp only [Act.put, List.setIfInBounds_toArray, List.set_cons_zero, List.set_cons_succ, i64_w, i32_w]
         rfl
        refine join_ (σ := Nat) 2 #[true,true,true,true,true,true,true,true,true,true,true,true,true,false,false] (fun s_ => [(26,.tuple #[.agg #[.int .i64 t152,.int .i64 t153,.int .i64 t154],.int .i64 t155]),(7,.pointer (some ⟨s_,0,none⟩)),(17,.tuple #[.agg #[.int .i64 t152,.int .i64 t153,.int .i64 t154],.int .i64 t155]),(27,.agg #[.int .i64 t152,.int .i64 t153,.int .i64 t154]),(28,.int .i64 t155)]) (fun s_ w' => (w'.cell? (ad150.add (x14_1).toNat) = some (.slice A150_0 (rd_L2 l1 x14_1).length c150_0) ∧ w'.cell? (ad151.add (x14_1).toNat) = some (.slice A151_0 (rd_L2 l0 x14_1).length c151_0)) ∧ (Kd.S k42 42 w' w.heap.size (fun _ => True) u5 x5_1) ∧ (w'.heap[s_]? = some (.cells #[.int .i64 0,.int .i64 0,.int .i64 0] 40 (0,0))) ∧ (w.heap.size ≤ s_) ∧ (w.heap.size ≤ s_) ∧ (Below w.heap.size w w')) ?_ ?_
        rotate_left
        ·intro hCont
         refine two_ (i := 8) (j := 12) (Ni := some 26) (Nj := some 7) #[true,true,true,true,true,true,true,true,true,false,false,false,false,false,false] #[true,true,true,true,true,true,true,true,false,false,false,false,true,false,false] rfl rfl rfl rfl (two_of HT_.out (by kernel_rfl)) (by decide) (by decide) (fun K hK => ?_) (fun K hK => ?_)
         ·skip
          refine goes_ Try.func18 (by kernel_rfl) rfl #[.slice A150_0 (rd_L2 l1 x14_1).length c150_0,.slice A151_0 (rd_L2 l0 x14_1).length c151_0] (by rfl) rfl rfl (by (try simp only [List.map_toArray,List.map_cons,List.map_nil]);first|done|rfl|(simp only [List.length_drop,List.length_take];rfl)) ?_
          with_reducible refine (oob_Unpack.calls k1 _ _ (rd_L2 l1 x14_1) _ _ (rd_L2 l0 x14_1) t152 t153 t154 t155 _ ?side1 ?side2 ?side3 ?side4 A8.out).mono ?_
          (case side1 => repeat (first|exact (Kd.C_below HR150_0.out HB.out)|(with_reducible refine Kd.C_alloc ?_ _)|(with_reducible refine Kd.C_drewN ?_ _)|(with_reducible refine Kd.C_drew ?_)))
          (case side2 => exact HC150_0.out)
          (case side3 => repeat (first|exact (Kd.C_below HR151_0.out HB.out)|(with_reducible refine Kd.C_alloc ?_ _)|(with_reducible refine Kd.C_drewN ?_ _)|(with_reducible refine Kd.C_drew ?_)))
          (case side4 => exact HC151_0.out)
          rintro e w37 ⟨rfl, hb⟩
          refine ⟨_, rfl, ?_⟩
          have n0_ := Aside0.mk (Kd.S_below (by (with_reducible repeat (first|apply Kd.S_alloc|apply Kd.S_drewN|apply Kd.S_drew));exact HO_5.out) hb)
          have n1_ := Aside0.mk (below_step (by repeat (first|(with_reducible first|exact HB.out|apply below_alloc|apply pw_below_drewN|apply below_drew1)|exact HB.out)) hb)
          clear HO_5
          clear HB
          have HO_5 := n0_
          have HB := n1_
          clear n0_ n1_
          (try clear hb)
          (try clear hb2)
          (try clear hk)
          (try clear hi)
          refine hK.out _ _ ⟨((HB.out.cell (World.block_lt_of_cell? w _ hw150_0)).trans hw150_0),((HB.out.cell (World.block_lt_of_cell? w _ hw151_0)).trans hw151_0)⟩ (fun hHeld => ?_)
          clear hK K
          refine norm_ (a' := ?_) ?_ ?_
          rotate_left
          ·show Act.put _ (some 26) _ = _
           simp only [Act.put, List.setIfInBounds_toArray, List.set_cons_zero, List.set_cons_succ, i64_w, i32_w]
           rfl
          refine pure_ (i := 9) (N := some 17) (v := ?_) (a' := ?_) #[true,true,true,true,true,true,true,true,true,true,false,false,false,false,false] rfl rfl (any_of HT_.out (by kernel_rfl)) (fun _ _ _ h => h) (Or.inl ⟨by rfl,?_⟩) ?_ ?_
          rotate_left
          ·intro w'
           go_simp
           with_reducible rfl
          rotate_left
          ·simp only [Act.put, List.setIfInBounds_toArray, List.set_cons_zero, List.set_cons_succ, i64_w, i32_w]
           rfl
          refine pure_ (i := 10) (N := some 27) (v := ?_) (a' := ?_) #[true,true,true,true,true,true,true,true,true,true,true,false,false,false,false] rfl rfl (any_of HT_.out (by kernel_rfl)) (fun _ _ _ h => h) (Or.inl ⟨by rfl,?_⟩) ?_ ?_
          rotate_left
          ·intro w'
           go_simp
           with_reducible rfl
          rotate_left
          ·simp only [Act.put, List.setIfInBounds_toArray, List.set_cons_zero, List.set_cons_succ, i64_w, i32_w]
           rfl
          refine pure_ (i := 11) (N := some 28) (v := ?_) (a' := ?_) #[true,true,true,true,true,true,true,true,true,true,true,true,false,false,false] rfl rfl (any_of HT_.out (by kernel_rfl)) (fun _ _ _ h => h) (Or.inl ⟨by rfl,?_⟩) ?_ ?_
          rotate_left
          ·intro w'
           go_simp
           with_reducible rfl
          rotate_left
          ·simp only [Act.put, List.setIfInBounds_toArray, List.set_cons_zero, List.set_cons_succ, i64_w, i32_w]
           rfl
          refine one_ (i := 12) (N := some 7) #[true,true,true,true,true,true,true,true,true,true,true,true,true,false,false] rfl rfl (one_of HT_.out (by kernel_rfl)) (by decide) (fun K hK => ?_)
          refine box_step ?hg (N := 7) ?hd (cs := #[.int .i64 0,.int .i64 0,.int .i64 0]) (t := 40) ?hr ?_;(case hd => rfl);(case hg => rfl);(case hr => first|(go_simp;done)|(go_simp;rfl))
          intro gb156 hg w38 hbox hb
          have n0_ := Aside0.mk (Kd.S_below (by (with_reducible repeat (first|apply Kd.S_alloc|apply Kd.S_drewN|apply Kd.S_drew));exact HO_5.out) hb)
          have n1_ := Aside0.mk (below_step (by repeat (first|(with_reducible first|exact HB.out|apply below_alloc|apply pw_below_drewN|apply below_drew1)|exact HB.out)) hb)
          have n2_ := Aside0.mk (hbox)
          have n3_ := Aside0.mk ((by rw [hg];exact (below_size (by repeat (first|(with_reducible first|exact HB.out|apply below_alloc|apply pw_below_drewN|apply below_drew1)|exact HB.out))) : w.heap.size ≤ gb156))
          have n4_ := Aside0.mk ((by rw [hg];exact (below_size (by repeat (first|(with_reducible first|exact HB.out|apply below_alloc|apply pw_below_drewN|apply below_drew1)|exact HB.out))) : w.heap.size ≤ gb156))
          clear HO_5
          clear HB
          have HO_5 := n0_
          have HB := n1_
          have BK156 := n2_
          have GW156 := n3_
          have GE156 := n4_
          clear n0_ n1_ n2_ n3_ n4_
          clear hb hbox hg
          refine hK.out _ _ ⟨((HB.out.cell (World.block_lt_of_cell? w _ hw150_0)).trans hw150_0),((HB.out.cell (World.block_lt_of_cell? w _ hw151_0)).trans hw151_0)⟩ (fun hHeld => ?_)
          clear hK K
          refine norm_ (a' := ?_) ?_ ?_
          rotate_left
          ·show Act.put _ (some 7) _ = _
           simp only [Act.put, List.setIfInBounds_toArray, List.set_cons_zero, List.set_cons_succ, i64_w, i32_w]
           rfl
          exact norm_ (by simp only [putAll,Act.put,List.setIfInBounds_toArray,List.set_cons_zero,List.set_cons_succ]) (hCont (gb156) _ ⟨hHeld,(by (with_reducible repeat (first|apply Kd.S_alloc|apply Kd.S_drewN|apply Kd.S_drew));exact HO_5.out),(by (with_reducible repeat (first|refine blk_drewN ?_ _|refine blk_drew ?_|refine blk_alloc ?_ _));exact BK156.out),GW156.out,GE156.out,(by repeat (first|(with_reducible first|exact HB.out|apply below_alloc|apply pw_below_drewN|apply below_drew1|refine below_set ?_ GE156.out)|exact HB.out))⟩)
         ·skip
          refine box_step ?hg (N := 7) ?hd (cs := #[.int .i64 0,.int .i64 0,.int .i64 0]) (t := 40) ?hr ?_;(case hd => rfl);(case hg => rfl);(case hr => first|(go_simp;done)|(go_simp;rfl))
          intro gb156 hg w37 hbox hb
          have n0_ := Aside0.mk (Kd.S_below (by (with_reducible repeat (first|apply Kd.S_alloc|apply Kd.S_drewN|apply Kd.S_drew));exact HO_5.out) hb)
          have n1_ := Aside0.mk (below_step (by repeat (first|(with_reducible first|exact HB.out|apply below_alloc|apply pw_below_drewN|apply below_drew1)|exact HB.out)) hb)
          have n2_ := Aside0.mk (hbox)
          have n3_ := Aside0.mk ((by rw [hg];exact (below_size (by repeat (first|(with_reducible first|exact HB.out|apply below_alloc|apply pw_below_drewN|apply below_drew1)|exact HB.out))) : w.heap.size ≤ gb156))
          have n4_ := Aside0.mk ((by rw [hg];exact (below_size (by repeat (first|(with_reducible first|exact HB.out|apply below_alloc|apply pw_below_drewN|apply below_drew1)|exact HB.out))) : w.heap.size ≤ gb156))
          clear HO_5
          clear HB
          have HO_5 := n0_
          have HB := n1_
          have BK156 := n2_
          have GW156 := n3_
          have GE156 := n4_
          clear n0_ n1_ n2_ n3_ n4_
          clear hb hbox hg
          refine hK.out _ _ ⟨((HB.out.cell (World.block_lt_of_cell? w _ hw150_0)).trans hw150_0),((HB.out.cell (World.block_lt_of_cell? w _ hw151_0)).trans hw151_0)⟩ (fun hHeld => ?_)
          clear hK K
          refine norm_ (a' := ?_) ?_ ?_
          rotate_left
          ·show Act.put _ (some 7) _ = _
           simp only [Act.put, List.setIfInBounds_toArray, List.set_cons_zero, List.set_cons_succ, i64_w, i32_w]
           rfl
          refine one_ (i := 8) (N := some 26) #[true,true,true,true,true,true,true,true,true,false,false,false,true,false,false] rfl rfl (one_of HT_.out (by kernel_rfl)) (by decide) (fun K hK => ?_)
          refine goes_ Try.func18 (by kernel_rfl) rfl #[.slice A150_0 (rd_L2 l1 x14_1).length c150_0,.slice A151_0 (rd_L2 l0 x14_1).length c151_0] (by rfl) rfl rfl (by (try simp only [List.map_toArray,List.map_cons,List.map_nil]);first|done|rfl|(simp only [List.length_drop,List.length_take];rfl)) ?_
          with_reducible refine (oob_Unpack.calls k1 _ _ (rd_L2 l1 x14_1) _ _ (rd_L2 l0 x14_1) t152 t153 t154 t155 _ ?side1 ?side2 ?side3 ?side4 A8.out).mono ?_
          (case side1 => repeat (first|exact (Kd.C_below HR150_0.out HB.out)|(with_reducible refine Kd.C_alloc ?_ _)|(with_reducible refine Kd.C_drewN ?_ _)|(with_reducible refine Kd.C_drew ?_)))
          (case side2 => exact HC150_0.out)
          (case side3 => repeat (first|exact (Kd.C_below HR151_0.out HB.out)|(with_reducible refine Kd.C_alloc ?_ _)|(with_reducible refine Kd.C_drewN ?_ _)|(with_reducible refine Kd.C_drew ?_)))
          (case side4 => exact HC151_0.out)
          rintro e w38 ⟨rfl, hb⟩
          refine ⟨_, rfl, ?_⟩
          have n0_ := Aside0.mk (Kd.S_below (by (with_reducible repeat (first|apply Kd.S_alloc|apply Kd.S_drewN|apply Kd.S_drew));exact HO_5.out) hb)
          have n1_ := Aside0.mk (blk_below (g := gb156) (o := .cells #[.int .i64 0,.int .i64 0,.int .i64 0] 40 (0,0)) (by (with_reducible repeat (first|refine blk_drewN ?_ _|refine blk_drew ?_|refine blk_alloc ?_ _));exact BK156.out) hb)
          have n2_ := Aside0.mk (below_step (by repeat (first|(with_reducible first|exact HB.out|apply below_alloc|apply pw_below_drewN|apply below_drew1|refine below_set ?_ GE156.out)|exact HB.out)) hb)
          clear HO_5
          clear BK156
          clear HB
          have HO_5 := n0_
          have BK156 := n1_
          have HB := n2_
          clear n0_ n1_ n2_
          (try clear hb)
          (try clear hb2)
          (try clear hk)
          (try clear hi)
          refine hK.out _ _ ⟨((HB.out.cell (World.block_lt_of_cell? w _ hw150_0)).trans hw150_0),((HB.out.cell (World.block_lt_of_cell? w _ hw151_0)).trans hw151_0)⟩ (fun hHeld => ?_)
          clear hK K
          refine norm_ (a' := ?_) ?_ ?_
          rotate_left
          ·show Act.put _ (some 26) _ = _
           simp only [Act.put, List.setIfInBounds_toArray, List.set_cons_zero, List.set_cons_succ, i64_w, i32_w]
           rfl
          refine pure_ (i := 9) (N := some 17) (v := ?_) (a' := ?_) #[true,true,true,true,true,true,true,true,true,true,false,false,true,false,false] rfl rfl (any_of HT_.out (by kernel_rfl)) (fun _ _ _ h => h) (Or.inl ⟨by rfl,?_⟩) ?_ ?_
          rotate_left
          ·intro w'
           go_simp
           with_reducible rfl
          rotate_left
          ·simp only [Act.put, List.setIfInBounds_toArray, List.set_cons_zero, List.set_cons_succ, i64_w, i32_w]
           rfl
          refine pure_ (i := 10) (N := some 27) (v := ?_) (a' := ?_) #[true,true,true,true,true,true,true,true,true,true,true,false,true,false,false] rfl rfl (any_of HT_.out (by kernel_rfl)) (fun _ _ _ h => h) (Or.inl ⟨by rfl,?_⟩) ?_ ?_
          rotate_left
          ·intro w'
           go_simp
           with_reducible rfl
          rotate_left
          ·simp only [Act.put, List.setIfInBounds_toArray, List.set_cons_zero, List.set_cons_succ, i64_w, i32_w]
           rfl
          refine pure_ (i := 11) (N := some 28) (v := ?_) (a' := ?_) #[true,true,true,true,true,true,true,true,true,true,true,true,true,false,false] rfl rfl (any_of HT_.out (by kernel_rfl)) (fun _ _ _ h => h) (Or.inl ⟨by rfl,?_⟩) ?_ ?_
          rotate_left
          ·intro w'
           go_simp
           with_reducible rfl
          rotate_left
          ·simp only [Act.put, List.setIfInBounds_toArray, List.set_cons_zero, List.set_cons_succ, i64_w, i32_w]
           rfl
          exact norm_ (by simp only [putAll,Act.put,List.setIfInBounds_toArray,List.set_cons_zero,List.set_cons_succ]) (hCont (gb156) _ ⟨hHeld,(by (with_reducible repeat (first|apply Kd.S_alloc|apply Kd.S_drewN|apply Kd.S_drew));exact HO_5.out),(by (with_reducible repeat (first|refine blk_drewN ?_ _|refine blk_drew ?_|refine blk_alloc ?_ _));exact BK156.out),GW156.out,GE156.out,(by repeat (first|(with_reducible first|exact HB.out|apply below_alloc|apply pw_below_drewN|apply below_drew1|refine below_set ?_ GE156.out)|exact HB.out))⟩)
        rintro gb156 w39 ⟨hS_, h0_, h1_, h2_, h3_, h4_⟩
        have n0_ : Aside0 (Kd.S k42 42 w39 w.heap.size (fun _ => True) u5 x5_1) := ⟨h0_⟩
        have n1_ : Aside0 (w39.heap[gb156]? = some (.cells #[.int .i64 0, .int .i64 0, .int .i64 0] 40 (0, 0))) := ⟨h1_⟩
        have n2_ : Aside0 (w.heap.size ≤ gb156) := ⟨h2_⟩
        have n3_ : Aside0 (w.heap.size ≤ gb156) := ⟨h3_⟩
        have n4_ : Aside0 (Below w.heap.size w w39) := ⟨h4_⟩
        clear HO_5
        clear HB
        clear h0_ h1_ h2_ h3_ h4_
        have HO_5 := n0_
        have BK156 := n1_
        have GW156 := n2_
        have GE156 := n3_
        have HB := n4_
        clear n0_ n1_ n2_ n3_ n4_
        have hHeld : w39.cell? (ad150.add (x14_1).toNat) = some (.slice A150_0 (rd_L2 l1 x14_1).length c150_0) ∧ w39.cell? (ad151.add (x14_1).toNat) = some (.slice A151_0 (rd_L2 l0 x14_1).length c151_0) := hS_
        refine norm_ (a' := ?_) ?_ ?_
        rotate_left
        ·simp only [putAll, Act.put, List.setIfInBounds_toArray, List.set_cons_zero, List.set_cons_succ]
         rfl
        refine one_ (i := 13) (N := none) #[true,true,true,true,true,true,true,true,true,true,true,true,true,true,false] rfl rfl (one_of HT_.out (by kernel_rfl)) (by decide) (fun K hK => ?_)
        have hs40 : w39.cell? ⟨gb156, 0, none⟩ = some (.int .i64 0) := (blk_cell BK156.out 0).trans rfl
        have hfs40 := blk_frozen BK156.out 0
        have hs41 : w39.cell? ⟨gb156, 1, none⟩ = some (.int .i64 0) := (blk_cell BK156.out 1).trans rfl
        have hfs41 := blk_frozen BK156.out 1
        have hs42 : w39.cell? ⟨gb156, 2, none⟩ = some (.int .i64 0) := (blk_cell BK156.out 2).trans rfl
        have hfs42 := blk_frozen BK156.out 2
        refine skip_ (w1 := ?_) (by rfl) rfl ?_ ?_
        rotate_left
        ·go_simp
         rfl
        refine hK.out _ _ ⟨((cell_far (p := ⟨gb156,_,none⟩) (by first|exact Nat.ne_of_lt (Nat.lt_of_lt_of_le (by have := World.block_lt_of_cell? _ _ hw150_0;first|rwa [add_block] at this|exact this) GW156.out)|(rw [add_block];exact Nat.ne_of_lt (Nat.lt_of_lt_of_le (by have := World.block_lt_of_cell? _ _ hw150_0;first|rwa [add_block] at this|exact this) GW156.out))|(show (Addr.add _ _).block ≠ _;rw [add_block];exact Nat.ne_of_lt (Nat.lt_of_lt_of_le (by have := World.block_lt_of_cell? _ _ hw150_0;first|rwa [add_block] at this|exact this) GW156.out))|(dsimp only;exact Nat.ne_of_lt (Nat.lt_of_lt_of_le (by have := World.block_lt_of_cell? _ _ hw150_0;first|rwa [add_block] at this|exact this) GW156.out))) _).trans (((cell_far (p := ⟨gb156,_,none⟩) (by first|exact Nat.ne_of_lt (Nat.lt_of_lt_of_le (by have := World.block_lt_of_cell? _ _ hw150_0;first|rwa [add_block] at this|exact this) GW156.out)|(rw [add_block];exact Nat.ne_of_lt (Nat.lt_of_lt_of_le (by have := World.block_lt_of_cell? _ _ hw150_0;first|rwa [add_block] at this|exact this) GW156.out))|(show (Addr.add _ _).block ≠ _;rw [add_block];exact Nat.ne_of_lt (Nat.lt_of_lt_of_le (by have := World.block_lt_of_cell? _ _ hw150_0;first|rwa [add_block] at this|exact this) GW156.out))|(dsimp only;exact Nat.ne_of_lt (Nat.lt_of_lt_of_le (by have := World.block_lt_of_cell? _ _ hw150_0;first|rwa [add_block] at this|exact this) GW156.out))) _).trans (((cell_far (p := ⟨gb156,_,none⟩) (by first|exact Nat.ne_of_lt (Nat.lt_of_lt_of_le (by have := World.block_lt_of_cell? _ _ hw150_0;first|rwa [add_block] at this|exact this) GW156.out)|(rw [add_block];exact Nat.ne_of_lt (Nat.lt_of_lt_of_le (by have := World.block_lt_of_cell? _ _ hw150_0;first|rwa [add_block] at this|exact this) GW156.out))|(show (Addr.add _ _).block ≠ _;rw [add_block];exact Nat.ne_of_lt (Nat.lt_of_lt_of_le (by have := World.block_lt_of_cell? _ _ hw150_0;first|rwa [add_block] at this|exact this) GW156.out))|(dsimp only;exact Nat.ne_of_lt (Nat.lt_of_lt_of_le (by have := World.block_lt_of_cell? _ _ hw150_0;first|rwa [add_block] at this|exact this) GW156.out))) _).trans (hHeld.1)))))),((cell_far (p := ⟨gb156,_,none⟩) (by first|exact Nat.ne_of_lt (Nat.lt_of_lt_of_le (by have := World.block_lt_of_cell? _ _ hw151_0;first|rwa [add_block] at this|exact this) GW156.out)|(rw [add_block];exact Nat.ne_of_lt (Nat.lt_of_lt_of_le (by have := World.block_lt_of_cell? _ _ hw151_0;first|rwa [add_block] at this|exact this) GW156.out))|(show (Addr.add _ _).block ≠ _;rw [add_block];exact Nat.ne_of_lt (Nat.lt_of_lt_of_le (by have := World.block_lt_of_cell? _ _ hw151_0;first|rwa [add_block] at this|exact this) GW156.out))|(dsimp only;exact Nat.ne_of_lt (Nat.lt_of_lt_of_le (by have := World.block_lt_of_cell? _ _ hw151_0;first|rwa [add_block] at this|exact this) GW156.out))) _).trans (((cell_far (p := ⟨gb156,_,none⟩) (by first|exact Nat.ne_of_lt (Nat.lt_of_lt_of_le (by have := World.block_lt_of_cell? _ _ hw151_0;first|rwa [add_block] at this|exact this) GW156.out)|(rw [add_block];exact Nat.ne_of_lt (Nat.lt_of_lt_of_le (by have := World.block_lt_of_cell? _ _ hw151_0;first|rwa [add_block] at this|exact this) GW156.out))|(show (Addr.add _ _).block ≠ _;rw [add_block];exact Nat.ne_of_lt (Nat.lt_of_lt_of_le (by have := World.block_lt_of_cell? _ _ hw151_0;first|rwa [add_block] at this|exact this) GW156.out))|(dsimp only;exact Nat.ne_of_lt (Nat.lt_of_lt_of_le (by have := World.block_lt_of_cell? _ _ hw151_0;first|rwa [add_block] at this|exact this) GW156.out))) _).trans (((cell_far (p := ⟨gb156,_,none⟩) (by first|exact Nat.ne_of_lt (Nat.lt_of_lt_of_le (by have := World.block_lt_of_cell? _ _ hw151_0;first|rwa [add_block] at this|exact this) GW156.out)|(rw [add_block];exact Nat.ne_of_lt (Nat.lt_of_lt_of_le (by have := World.block_lt_of_cell? _ _ hw151_0;first|rwa [add_block] at this|exact this) GW156.out))|(show (Addr.add _ _).block ≠ _;rw [add_block];exact Nat.ne_of_lt (Nat.lt_of_lt_of_le (by have := World.block_lt_of_cell? _ _ hw151_0;first|rwa [add_block] at this|exact this) GW156.out))|(dsimp only;exact Nat.ne_of_lt (Nat.lt_of_lt_of_le (by have := World.block_lt_of_cell? _ _ hw151_0;first|rwa [add_block] at this|exact this) GW156.out))) _).trans (hHeld.2))))))⟩ (fun hHeld => ?_)
        clear hK K
        refine pure_ (i := 14) (N := some 8) (v := ?_) (a' := ?_) #[true,true,true,true,true,true,true,true,true,true,true,true,true,true,true] rfl rfl (any_of HT_.out (by kernel_rfl)) (fun _ _ _ h => h) (Or.inl ⟨by rfl,?_⟩) ?_ ?_
        rotate_left
        ·intro w'
         go_simp
         with_reducible rfl
        rotate_left
        ·simp only [Act.put, List.setIfInBounds_toArray, List.set_cons_zero, List.set_cons_succ, i64_w, i32_w]
         rfl
        refine done_ (done_of HT_.out (by kernel_rfl)) ?_
        try go_wp2
        go_roundg k1
        case measure => have := HK1.out; omega
        case rel => exact ⟨(x5_1),(wrap64 (x14_1 + 1)),(by first|rfl|(simp;done)|(simp [*];done)),H',⟨by have := HK1.out;omega⟩,⟨by (with_reducible repeat (first|apply Kd.S_alloc|apply Kd.S_drewN|apply Kd.S_drew));exact Kd.S_mono (Kd.S_far (p := ⟨gb156,2,none⟩) (Kd.S_far (p := ⟨gb156,1,none⟩) (Kd.S_far (p := ⟨gb156,0,none⟩) (Kd.S_types HO_5.out BK156.out (by decide)) (fun _ hk => hk.2) (.int .i64 t152)) (fun _ hk => hk.2) (.int .i64 t153)) (fun _ hk => hk.2) (.int .i64 t154)) (fun _ hk => trivial)⟩,⟨by repeat (first|(with_reducible first|exact HB.out|apply below_alloc|apply pw_below_drewN|apply below_drew1|refine below_set ?_ GE156.out)|exact HB.out)⟩⟩
      ·rw [if_neg c7] at H
       exact absurd H (by simp)
     ·rw [if_neg c6] at H
      exact absurd H (by simp)
    ·rw [if_neg c5] at H
     exact absurd H (by simp)
   ·rw [if_neg c4] at H
    have c4b0 : decide (x14_1 < ji3) = false := decide_eq_false c4
    clear c4
    obtain rfl := Option.some.inj H
    go_wp2
    go_ret
    exact ⟨_,by first|rfl|(simp [errW_none,errW_some] <;> rfl)|(simp only [← hji3];first|rfl|(simp [errW_none,errW_some] <;> rfl))|(simp [*,errW_none,errW_some] <;> rfl),by (with_reducible repeat (first|apply Kd.S_alloc|apply Kd.S_drewN|apply Kd.S_drew));exact HO_5.out,by repeat (first|(with_reducible first|exact HB.out|apply below_alloc|apply pw_below_drewN|apply below_drew1)|exact HB.out)⟩


attribute [local go_sem high] eqA40
/-! ### strakelaw15_awake: function 9 -/
def strakelaw15_awake.f (k : Nat)  : Option (Bool) := (page_Build.f k 2 (([(⟨2,5,9,([] : List Int),0⟩ : S38)] : List (S38)))).bind fun bt170 => ((page_Read.f k bt170.1 bt170.2.1).bind fun t177 => (if bt170.2.2 = 0 then (if (bt170.1.length : Int) = 2 then (if (bt170.2.1.length : Int) = 2 then (if (t177.length : Int) = 1 then (if 0 < (t177.length : Int) then (some (((rd_T42 t177 0).f1.f0) == 2 && (((rd_T42 t177 0).f1.f1) == 5 && (((rd_T42 t177 0).f1.f2) == 9)))) else (none)) else (some false)) else (some false)) else (some false)) else (some false)))
theorem strakelaw15_awake.mono : ∀ k, LeO (strakelaw15_awake.f k ) (strakelaw15_awake.f (k + 1) ) := by
 intro  k
 unfold strakelaw15_awake.f
 repeat' first
   | (with_reducible exact page_Build.mono _ _ _)
   | (with_reducible exact page_Read.mono _ _ _)
   | (with_reducible exact LeO.refl _)
   | (with_reducible exact LeO.none _)
   | (with_reducible refine LeO.ite ?_ ?_)
   | (with_reducible refine LeO.bind ?_ (fun _ => ?_))
   | exact page_Build.mono _ _ _
   | exact page_Read.mono _ _ _
   | exact LeO.none _
   | refine LeO.ite ?_ ?_
   | refine LeO.bind ?_ (fun _ => ?_)
set_option maxHeartbeats 8000000 in
set_option maxRecDepth 100000 in
theorem strakelaw15_awake.calls (k : Nat)  (r : Bool) (w : World) (h : strakelaw15_awake.f k  = some r) :
  Calls Try.prog 9 #[] w fun e w' => e = .returned (.bool r) ∧ Below w.heap.size w w' := by
 have hu38 := Try.underlying38
 have hu40 := Try.underlying40
 have HB := Aside0.mk (Below.refl w.heap.size w)
 have H : ((page_Build.f k 2 (([(⟨2,5,9,([] : List Int),0⟩ : S38)] : List (S38)))).bind fun bt170 => ((page_Read.f k bt170.1 bt170.2.1).bind fun t177 => (if bt170.2.2 = 0 then (if (bt170.1.length : Int) = 2 then (if (bt170.2.1.length : Int) = 2 then (if (t177.length : Int) = 1 then (if 0 < (t177.length : Int) then (some (((rd_T42 t177 0).f1.f0) == 2 && (((rd_T42 t177 0).f1.f1) == 5 && (((rd_T42 t177 0).f1.f2) == 9)))) else (none)) else (some false)) else (some false)) else (some false)) else (some false)))) = some r := h
 clear h
 obtain ⟨y167, hy167⟩ : ∃ y_ : List (S38), y_ = (([(⟨2, 5, 9, ([] : List Int), 0⟩ : S38)] : List (S38))) := ⟨_, rfl⟩
 replace H : ((page_Build.f k 2 y167).bind fun bt170 => ((page_Read.f k bt170.1 bt170.2.1).bind fun t177 => (if bt170.2.2 = 0 then (if (bt170.1.length : Int) = 2 then (if (bt170.2.1.length : Int) = 2 then (if (t177.length : Int) = 1 then (if 0 < (t177.length : Int) then (some (((rd_T42 t177 0).f1.f0) == 2 && (((rd_T42 t177 0).f1.f1) == 5 && (((rd_T42 t177 0).f1.f2) == 9)))) else (none)) else (some false)) else (some false)) else (some false)) else (some false)))) = some r := by first|(rw [hy167];with_reducible exact H)|(have H2_ := (Option.bind_some _ _).symm.trans H;rw [hy167];with_reducible exact H2_)|(have H2_ := (Option.bind_some _ _).symm.trans H;with_reducible exact H2_)|with_reducible exact H|(rw [hy167];exact H)|exact H
 have Ny167 := Aside0.mk hy167
 clear hy167
 replace H := Option.bind_eq_some_iff.mp H
 obtain ⟨⟨t170, t171, t172⟩, A10, H⟩ := H
 replace H : ((page_Read.f k t170 t171).bind fun t177 => (if t172 = 0 then (if (t170.length : Int) = 2 then (if (t171.length : Int) = 2 then (if (t177.length : Int) = 1 then (if 0 < (t177.length : Int) then (some (((rd_T42 t177 0).f1.f0) == 2 && (((rd_T42 t177 0).f1.f1) == 5 && (((rd_T42 t177 0).f1.f2) == 9)))) else (none)) else (some false)) else (some false)) else (some false)) else (some false))) = some r := H
 have A1 := Aside0.mk A10
 clear A10
 replace H := Option.bind_eq_some_iff.mp H
 obtain ⟨t177, A20, H⟩ := H
 replace H : (if t172 = 0 then (if (t170.length : Int) = 2 then (if (t171.length : Int) = 2 then (if (t177.length : Int) = 1 then (if 0 < (t177.length : Int) then (some (((rd_T42 t177 0).f1.f0) == 2 && (((rd_T42 t177 0).f1.f1) == 5 && (((rd_T42 t177 0).f1.f2) == 9)))) else (none)) else (some false)) else (some false)) else (some false)) else (some false)) = some r := H
 have A2 := Aside0.mk A20
 clear A20
 by_cases c3 : t172 = 0
 ·rw [if_pos c3] at H
  have c3b0 : (t172 == 0) = true := beq_iff_eq.mpr c3
  have c3b1 : (t172 != 0) = false := bne_eq_false_iff_eq.mpr c3
  clear c3
  by_cases c4 : (t170.length : Int) = 2
  ·rw [if_pos c4] at H
   have c4b0 : ((t170.length : Int) == 2) = true := beq_iff_eq.mpr c4
   have c4b1 : ((t170.length : Int) != 2) = false := bne_eq_false_iff_eq.mpr c4
   clear c4
   by_cases c5 : (t171.length : Int) = 2
   ·rw [if_pos c5] at H
    have c5b0 : ((t171.length : Int) == 2) = true := beq_iff_eq.mpr c5
    have c5b1 : ((t171.length : Int) != 2) = false := bne_eq_false_iff_eq.mpr c5
    clear c5
    by_cases c6 : (t177.length : Int) = 1
    ·rw [if_pos c6] at H
     have c6b0 : ((t177.length : Int) == 1) = true := beq_iff_eq.mpr c6
     have c6b1 : ((t177.length : Int) != 1) = false := bne_eq_false_iff_eq.mpr c6
     clear c6
     by_cases c7 : 0 < (t177.length : Int)
     ·rw [if_pos c7] at H
      have c7b0 : decide (0 < (t177.length : Int)) = true := decide_eq_true c7
      have c7b1 : decide (0 < t177.length) = true := decide_eq_true (by omega)
      clear c7
      obtain rfl := Option.some.inj H
      go_enter Try.func9, Try.ntmps9
      go_wp2_with (first|((with_reducible refine gate_dst (N := 7) rfl ?_);(try (refine gate_guard (by rfl) ?_;dsimp only));refine Kd.S_lit k38 _ 38 ?hg (N := 7) ?hd (xs := ([(⟨2,5,9,([] : List Int),0⟩ : S38)] : List (S38))) (inner := [.int .i64 2,.int .i64 5,.int .i64 9,.slice none 0 0,.int .i64 0]) (ok := fun _ => True) (okp := fun _ => True) ?hr ?hp (fun _ hk => hk) trivial (Below.refl _ _) (Nat.le_refl _) (by simp) ?_;(case hd => rfl);(case hg => rfl);(case hr => first|(go_simp;done)|(go_simp;rfl));(case hp => exact (Reps.c5 (show Kd.M k38 _ _ _ (⟨2,5,9,([] : List Int),0⟩ : S38) [.int .i64 2,.int .i64 5,.int .i64 9,.slice none 0 0,.int .i64 0] from (k38_mkM _ _ _ (⟨2,5,9,([] : List Int),0⟩ : S38) (Kd.R_nil _ _ _ _ _))) (Reps.none _ _)));intro v168 w8 ho9 hb hg_ hnew_;clear hg_ hnew_;(first|rw [← Ny167.out] at ho9|(simp only [Int.reduceToNat] at ho9;rw [← Ny167.out] at ho9));have n0_ := Aside0.mk (Kd.S_lower ho9 (below_size (by repeat (first|(with_reducible first|exact HB.out|apply below_alloc|apply pw_below_drewN|apply below_drew1)|exact HB.out))));have n1_ := Aside0.mk (below_step (by repeat (first|(with_reducible first|exact HB.out|apply below_alloc|apply pw_below_drewN|apply below_drew1)|exact HB.out)) hb);clear HB;have HO169 := n0_;have HB := n1_;clear n0_ n1_;clear hb ho9;obtain ⟨Ao10,co10,eo10⟩ := Kd.S_slice HO169.out;subst eo10)|((with_reducible refine gate_callee (f := 11) rfl ?_);refine goesL_ (some 8) rfl rfl Try.func11 (by kernel_rfl) rfl #[.int .i64 2,.slice Ao10 y167.length co10] rfl (by (try simp only [List.map_toArray,List.map_cons,List.map_nil]);first|done|rfl|(simp only [List.length_drop,List.length_take];rfl)) ?_;(with_reducible refine (page_Build.calls k 2 _ _ y167 t170 t171 t172 _ ?side1 ?side2 A1.out).mono ?_);(case side1 => repeat (first|exact (Kd.S_reads' HO169.out).2.2|(with_reducible refine Kd.C_alloc ?_ _)|(with_reducible refine Kd.C_drewN ?_ _)|(with_reducible refine Kd.C_drew ?_)));(case side2 => exact (Kd.S_reads' HO169.out).2.1);rintro e w11 ⟨v173,v175,rfl,ho0,ho1,hb⟩;refine ⟨_,rfl,?_⟩;have n0_ := Aside0.mk (Kd.S_below (by (with_reducible repeat (first|apply Kd.S_alloc|apply Kd.S_drewN|apply Kd.S_drew));exact HO169.out) hb);have n1_ := Aside0.mk (Kd.S_lower ho0 (below_size (by repeat (first|(with_reducible first|exact HB.out|apply below_alloc|apply pw_below_drewN|apply below_drew1)|exact HB.out))));have n2_ := Aside0.mk (Kd.S_lower ho1 (below_size (by repeat (first|(with_reducible first|exact HB.out|apply below_alloc|apply pw_below_drewN|apply below_drew1)|exact HB.out))));have n3_ := Aside0.mk (below_step (by repeat (first|(with_reducible first|exact HB.out|apply below_alloc|apply pw_below_drewN|apply below_drew1)|exact HB.out)) hb);clear HO169;clear HB;have HO169 := n0_;have HO174 := n1_;have HO176 := n2_;have HB := n3_;clear n0_ n1_ n2_ n3_;(try clear hb);(try clear hb2);(try clear hk);(try clear hi);(try clear ho0);(try clear ho1);obtain ⟨Ao12,co12,eo12⟩ := Kd.S_slice HO174.out;subst eo12;obtain ⟨Ao13,co13,eo13⟩ := Kd.S_slice HO176.out;subst eo13)|((with_reducible refine gate_callee (f := 16) rfl ?_);refine goesL_ (some 14) rfl rfl Try.func16 (by kernel_rfl) rfl #[.slice Ao12 t170.length co12,.slice Ao13 t171.length co13] rfl (by (try simp only [List.map_toArray,List.map_cons,List.map_nil]);first|done|rfl|(simp only [List.length_drop,List.length_take];rfl)) ?_;(with_reducible refine (page_Read.calls k _ _ t170 _ _ t171 t177 _ ?side1 ?side2 ?side3 ?side4 A2.out).mono ?_);(case side1 => repeat (first|exact (Kd.S_reads' HO174.out).2.2|(with_reducible refine Kd.C_alloc ?_ _)|(with_reducible refine Kd.C_drewN ?_ _)|(with_reducible refine Kd.C_drew ?_)));(case side2 => exact (Kd.S_reads' HO174.out).2.1);(case side3 => repeat (first|exact (Kd.S_reads' HO176.out).2.2|(with_reducible refine Kd.C_alloc ?_ _)|(with_reducible refine Kd.C_drewN ?_ _)|(with_reducible refine Kd.C_drew ?_)));(case side4 => exact (Kd.S_reads' HO176.out).2.1);rintro e w14 ⟨v178,rfl,ho0,hb⟩;refine ⟨_,rfl,?_⟩;have n0_ := Aside0.mk (Kd.S_below (by (with_reducible repeat (first|apply Kd.S_alloc|apply Kd.S_drewN|apply Kd.S_drew));exact HO169.out) hb);have n1_ := Aside0.mk (Kd.S_below (by (with_reducible repeat (first|apply Kd.S_alloc|apply Kd.S_drewN|apply Kd.S_drew));exact HO174.out) hb);have n2_ := Aside0.mk (Kd.S_below (by (with_reducible repeat (first|apply Kd.S_alloc|apply Kd.S_drewN|apply Kd.S_drew));exact HO176.out) hb);have n3_ := Aside0.mk (Kd.S_lower ho0 (below_size (by repeat (first|(with_reducible first|exact HB.out|apply below_alloc|apply pw_below_drewN|apply below_drew1)|exact HB.out))));have n4_ := Aside0.mk (below_step (by repeat (first|(with_reducible first|exact HB.out|apply below_alloc|apply pw_below_drewN|apply below_drew1)|exact HB.out)) hb);clear HO169;clear HO174;clear HO176;clear HB;have HO169 := n0_;have HO174 := n1_;have HO176 := n2_;have HO179 := n3_;have HB := n4_;clear n0_ n1_ n2_ n3_ n4_;(try clear hb);(try clear hb2);(try clear hk);(try clear hi);(try clear ho0);obtain ⟨Ao15,co15,eo15⟩ := Kd.S_slice HO179.out;subst eo15;have p180 : 0 ≤ (0 : Int) := (by omega);have q180 : 0 < (t177.length : Int) := of_decide_eq_true (by first|(with_reducible assumption)|assumption);obtain ⟨ad180,A180_4,c180_4,e180,hx180_0,hx180_1,hx180_2,hx180_3,hx180_4,hl180_4,hi180_4⟩ := at_T42 (Kd.S_reads' HO179.out).2.2 0 p180 q180;cases e180;obtain ⟨ce180,hce180,hMe180,hcc180⟩ := Kd.S_get HO179.out z42 0 p180 (by first|exact q180|exact of_decide_eq_true (by first|(with_reducible assumption)|assumption)|(have e_ := (Kd.S_reads' HO179.out).1;omega));obtain ⟨ve180_4,rfl,ge180_4⟩ := k42_openM hMe180;have hv180_4 := hcc180 4 _ rfl;rw [add_field _ _ 4 (by omega)] at hv180_4;replace hv180_4 := Option.some.inj (hv180_4.symm.trans hx180_4);rw [hv180_4] at ge180_4;have HL180_4 := Aside0.mk (show Kd.R (Kd.int .u8) 5 _ _ _ _ ((rd_T42 t177 0).f2) from ge180_4);clear hv180_4 ge180_4;clear hcc180 hce180;have qi180 : (0 < t177.length) = True := eq_true (by omega);(try rw [show ((0 : Int)).toNat = 0 from rfl] at hx180_0);(try rw [show 0 * 5 = 0 from rfl] at hx180_0);(try rw [Addr.add_zero'] at hx180_0);(try rw [show ((0 : Int)).toNat = 0 from rfl] at hx180_1);(try rw [show 0 * 5 = 0 from rfl] at hx180_1);(try rw [Addr.add_zero'] at hx180_1);(try rw [show ((0 : Int)).toNat = 0 from rfl] at hx180_2);(try rw [show 0 * 5 = 0 from rfl] at hx180_2);(try rw [Addr.add_zero'] at hx180_2);(try rw [show ((0 : Int)).toNat = 0 from rfl] at hx180_3);(try rw [show 0 * 5 = 0 from rfl] at hx180_3);(try rw [Addr.add_zero'] at hx180_3);(try rw [show ((0 : Int)).toNat = 0 from rfl] at hx180_4);(try rw [show 0 * 5 = 0 from rfl] at hx180_4);(try rw [Addr.add_zero'] at hx180_4);have HR180_4 := Aside0.mk hi180_4;have HC180_4 := Aside0.mk hl180_4;clear hi180_4 hl180_4;replace p180 := eq_true p180;replace q180 := eq_true q180))
      go_ret
      exact ⟨by first|rfl|(simp [errW_none,errW_some] <;> rfl)|(simp [*,errW_none,errW_some] <;> rfl),by repeat (first|(with_reducible first|exact HB.out|apply below_alloc|apply pw_below_drewN|apply below_drew1)|exact HB.out)⟩
     ·rw [if_neg c7] at H
      exact absurd H (by simp)
    ·rw [if_neg c6] at H
     have c6b0 : ((t177.length : Int) == 1) = false := beq_eq_false_iff_ne.mpr c6
     have c6b1 : ((t177.length : Int) != 1) = true := bne_iff_ne.mpr c6
     obtain rfl := Option.some.inj H
     go_enter Try.func9, Try.ntmps9
     go_wp2_with (first|((with_reducible refine gate_dst (N := 7) rfl ?_);(try (refine gate_guard (by rfl) ?_;dsimp only));refine Kd.S_lit k38 _ 38 ?hg (N := 7) ?hd (xs := ([(⟨2,5,9,([] : List Int),0⟩ : S38)] : List (S38))) (inner := [.int .i64 2,.int .i64 5,.int .i64 9,.slice none 0 0,.int .i64 0]) (ok := fun _ => True) (okp := fun _ => True) ?hr ?hp (fun _ hk => hk) trivial (Below.refl _ _) (Nat.le_refl _) (by simp) ?_;(case hd => rfl);(case hg => rfl);(case hr => first|(go_simp;done)|(go_simp;rfl));(case hp => exact (Reps.c5 (show Kd.M k38 _ _ _ (⟨2,5,9,([] : List Int),0⟩ : S38) [.int .i64 2,.int .i64 5,.int .i64 9,.slice none 0 0,.int .i64 0] from (k38_mkM _ _ _ (⟨2,5,9,([] : List Int),0⟩ : S38) (Kd.R_nil _ _ _ _ _))) (Reps.none _ _)));intro v168 w16 ho17 hb hg_ hnew_;clear hg_ hnew_;(first|rw [← Ny167.out] at ho17|(simp only [Int.reduceToNat] at ho17;rw [← Ny167.out] at ho17));have n0_ := Aside0.mk (Kd.S_lower ho17 (below_size (by repeat (first|(with_reducible first|exact HB.out|apply below_alloc|apply pw_below_drewN|apply below_drew1)|exact HB.out))));have n1_ := Aside0.mk (below_step (by repeat (first|(with_reducible first|exact HB.out|apply below_alloc|apply pw_below_drewN|apply below_drew1)|exact HB.out)) hb);clear HB;have HO169 := n0_;have HB := n1_;clear n0_ n1_;clear hb ho17;obtain ⟨Ao18,co18,eo18⟩ := Kd.S_slice HO169.out;subst eo18)|((with_reducible refine gate_callee (f := 11) rfl ?_);refine goesL_ (some 8) rfl rfl Try.func11 (by kernel_rfl) rfl #[.int .i64 2,.slice Ao18 y167.length co18] rfl (by (try simp only [List.map_toArray,List.map_cons,List.map_nil]);first|done|rfl|(simp only [List.length_drop,List.length_take];rfl)) ?_;(with_reducible refine (page_Build.calls k 2 _ _ y167 t170 t171 t172 _ ?side1 ?side2 A1.out).mono ?_);(case side1 => repeat (first|exact (Kd.S_reads' HO169.out).2.2|(with_reducible refine Kd.C_alloc ?_ _)|(with_reducible refine Kd.C_drewN ?_ _)|(with_reducible refine Kd.C_drew ?_)));(case side2 => exact (Kd.S_reads' HO169.out).2.1);rintro e w19 ⟨v173,v175,rfl,ho0,ho1,hb⟩;refine ⟨_,rfl,?_⟩;have n0_ := Aside0.mk (Kd.S_below (by (with_reducible repeat (first|apply Kd.S_alloc|apply Kd.S_drewN|apply Kd.S_drew));exact HO169.out) hb);have n1_ := Aside0.mk (Kd.S_lower ho0 (below_size (by repeat (first|(with_reducible first|exact HB.out|apply below_alloc|apply pw_below_drewN|apply below_drew1)|exact HB.out))));have n2_ := Aside0.mk (Kd.S_lower ho1 (below_size (by repeat (first|(with_reducible first|exact HB.out|apply below_alloc|apply pw_below_drewN|apply below_drew1)|exact HB.out))));have n3_ := Aside0.mk (below_step (by repeat (first|(with_reducible first|exact HB.out|apply below_alloc|apply pw_below_drewN|apply below_drew1)|exact HB.out)) hb);clear HO169;clear HB;have HO169 := n0_;have HO174 := n1_;have HO176 := n2_;have HB := n3_;clear n0_ n1_ n2_ n3_;(try clear hb);(try clear hb2);(try clear hk);(try clear hi);(try clear ho0);(try clear ho1);obtain ⟨Ao20,co20,eo20⟩ := Kd.S_slice HO174.out;subst eo20;obtain ⟨Ao21,co21,eo21⟩ := Kd.S_slice HO176.out;subst eo21)|((with_reducible refine gate_callee (f := 16) rfl ?_);refine goesL_ (some 14) rfl rfl Try.func16 (by kernel_rfl) rfl #[.slice Ao20 t170.length co20,.slice Ao21 t171.length co21] rfl (by (try simp only [List.map_toArray,List.map_cons,List.map_nil]);first|done|rfl|(simp only [List.length_drop,List.length_take];rfl)) ?_;(with_reducible refine (page_Read.calls k _ _ t170 _ _ t171 t177 _ ?side1 ?side2 ?side3 ?side4 A2.out).mono ?_);(case side1 => repeat (first|exact (Kd.S_reads' HO174.out).2.2|(with_reducible refine Kd.C_alloc ?_ _)|(with_reducible refine Kd.C_drewN ?_ _)|(with_reducible refine Kd.C_drew ?_)));(case side2 => exact (Kd.S_reads' HO174.out).2.1);(case side3 => repeat (first|exact (Kd.S_reads' HO176.out).2.2|(with_reducible refine Kd.C_alloc ?_ _)|(with_reducible refine Kd.C_drewN ?_ _)|(with_reducible refine Kd.C_drew ?_)));(case side4 => exact (Kd.S_reads' HO176.out).2.1);rintro e w22 ⟨v178,rfl,ho0,hb⟩;refine ⟨_,rfl,?_⟩;have n0_ := Aside0.mk (Kd.S_below (by (with_reducible repeat (first|apply Kd.S_alloc|apply Kd.S_drewN|apply Kd.S_drew));exact HO169.out) hb);have n1_ := Aside0.mk (Kd.S_below (by (with_reducible repeat (first|apply Kd.S_alloc|apply Kd.S_drewN|apply Kd.S_drew));exact HO174.out) hb);have n2_ := Aside0.mk (Kd.S_below (by (with_reducible repeat (first|apply Kd.S_alloc|apply Kd.S_drewN|apply Kd.S_drew));exact HO176.out) hb);have n3_ := Aside0.mk (Kd.S_lower ho0 (below_size (by repeat (first|(with_reducible first|exact HB.out|apply below_alloc|apply pw_below_drewN|apply below_drew1)|exact HB.out))));have n4_ := Aside0.mk (below_step (by repeat (first|(with_reducible first|exact HB.out|apply below_alloc|apply pw_below_drewN|apply below_drew1)|exact HB.out)) hb);clear HO169;clear HO174;clear HO176;clear HB;have HO169 := n0_;have HO174 := n1_;have HO176 := n2_;have HO179 := n3_;have HB := n4_;clear n0_ n1_ n2_ n3_ n4_;(try clear hb);(try clear hb2);(try clear hk);(try clear hi);(try clear ho0);obtain ⟨Ao23,co23,eo23⟩ := Kd.S_slice HO179.out;subst eo23))
     go_ret
     exact ⟨by first|rfl|(simp [errW_none,errW_some] <;> rfl)|(simp [*,errW_none,errW_some] <;> rfl),by repeat (first|(with_reducible first|exact HB.out|apply below_alloc|apply pw_below_drewN|apply below_drew1)|exact HB.out)⟩
   ·rw [if_neg c5] at H
    have c5b0 : ((t171.length : Int) == 2) = false := beq_eq_false_iff_ne.mpr c5
    have c5b1 : ((t171.length : Int) != 2) = true := bne_iff_ne.mpr c5
    obtain rfl := Option.some.inj H
    go_enter Try.func9, Try.ntmps9
    go_wp2_with (first|((with_reducible refine gate_dst (N := 7) rfl ?_);(try (refine gate_guard (by rfl) ?_;dsimp only));refine Kd.S_lit k38 _ 38 ?hg (N := 7) ?hd (xs := ([(⟨2,5,9,([] : List Int),0⟩ : S38)] : List (S38))) (inner := [.int .i64 2,.int .i64 5,.int .i64 9,.slice none 0 0,.int .i64 0]) (ok := fun _ => True) (okp := fun _ => True) ?hr ?hp (fun _ hk => hk) trivial (Below.refl _ _) (Nat.le_refl _) (by simp) ?_;(case hd => rfl);(case hg => rfl);(case hr => first|(go_simp;done)|(go_simp;rfl));(case hp => exact (Reps.c5 (show Kd.M k38 _ _ _ (⟨2,5,9,([] : List Int),0⟩ : S38) [.int .i64 2,.int .i64 5,.int .i64 9,.slice none 0 0,.int .i64 0] from (k38_mkM _ _ _ (⟨2,5,9,([] : List Int),0⟩ : S38) (Kd.R_nil _ _ _ _ _))) (Reps.none _ _)));intro v168 w24 ho25 hb hg_ hnew_;clear hg_ hnew_;(first|rw [← Ny167.out] at ho25|(simp only [Int.reduceToNat] at ho25;rw [← Ny167.out] at ho25));have n0_ := Aside0.mk (Kd.S_lower ho25 (below_size (by repeat (first|(with_reducible first|exact HB.out|apply below_alloc|apply pw_below_drewN|apply below_drew1)|exact HB.out))));have n1_ := Aside0.mk (below_step (by repeat (first|(with_reducible first|exact HB.out|apply below_alloc|apply pw_below_drewN|apply below_drew1)|exact HB.out)) hb);clear HB;have HO169 := n0_;have HB := n1_;clear n0_ n1_;clear hb ho25;obtain ⟨Ao26,co26,eo26⟩ := Kd.S_slice HO169.out;subst eo26)|((with_reducible refine gate_callee (f := 11) rfl ?_);refine goesL_ (some 8) rfl rfl Try.func11 (by kernel_rfl) rfl #[.int .i64 2,.slice Ao26 y167.length co26] rfl (by (try simp only [List.map_toArray,List.map_cons,List.map_nil]);first|done|rfl|(simp only [List.length_drop,List.length_take];rfl)) ?_;(with_reducible refine (page_Build.calls k 2 _ _ y167 t170 t171 t172 _ ?side1 ?side2 A1.out).mono ?_);(case side1 => repeat (first|exact (Kd.S_reads' HO169.out).2.2|(with_reducible refine Kd.C_alloc ?_ _)|(with_reducible refine Kd.C_drewN ?_ _)|(with_reducible refine Kd.C_drew ?_)));(case side2 => exact (Kd.S_reads' HO169.out).2.1);rintro e w27 ⟨v173,v175,rfl,ho0,ho1,hb⟩;refine ⟨_,rfl,?_⟩;have n0_ := Aside0.mk (Kd.S_below (by (with_reducible repeat (first|apply Kd.S_alloc|apply Kd.S_drewN|apply Kd.S_drew));exact HO169.out) hb);have n1_ := Aside0.mk (Kd.S_lower ho0 (below_size (by repeat (first|(with_reducible first|exact HB.out|apply below_alloc|apply pw_below_drewN|apply below_drew1)|exact HB.out))));have n2_ := Aside0.mk (Kd.S_lower ho1 (below_size (by repeat (first|(with_reducible first|exact HB.out|apply below_alloc|apply pw_below_drewN|apply below_drew1)|exact HB.out))));have n3_ := Aside0.mk (below_step (by repeat (first|(with_reducible first|exact HB.out|apply below_alloc|apply pw_below_drewN|apply below_drew1)|exact HB.out)) hb);clear HO169;clear HB;have HO169 := n0_;have HO174 := n1_;have HO176 := n2_;have HB := n3_;clear n0_ n1_ n2_ n3_;(try clear hb);(try clear hb2);(try clear hk);(try clear hi);(try clear ho0);(try clear ho1);obtain ⟨Ao28,co28,eo28⟩ := Kd.S_slice HO174.out;subst eo28;obtain ⟨Ao29,co29,eo29⟩ := Kd.S_slice HO176.out;subst eo29)|((with_reducible refine gate_callee (f := 16) rfl ?_);refine goesL_ (some 14) rfl rfl Try.func16 (by kernel_rfl) rfl #[.slice Ao28 t170.length co28,.slice Ao29 t171.length co29] rfl (by (try simp only [List.map_toArray,List.map_cons,List.map_nil]);first|done|rfl|(simp only [List.length_drop,List.length_take];rfl)) ?_;(with_reducible refine (page_Read.calls k _ _ t170 _ _ t171 t177 _ ?side1 ?side2 ?side3 ?side4 A2.out).mono ?_);(case side1 => repeat (first|exact (Kd.S_reads' HO174.out).2.2|(with_reducible refine Kd.C_alloc ?_ _)|(with_reducible refine Kd.C_drewN ?_ _)|(with_reducible refine Kd.C_drew ?_)));(case side2 => exact (Kd.S_reads' HO174.out).2.1);(case side3 => repeat (first|exact (Kd.S_reads' HO176.out).2.2|(with_reducible refine Kd.C_alloc ?_ _)|(with_reducible refine Kd.C_drewN ?_ _)|(with_reducible refine Kd.C_drew ?_)));(case side4 => exact (Kd.S_reads' HO176.out).2.1);rintro e w30 ⟨v178,rfl,ho0,hb⟩;refine ⟨_,rfl,?_⟩;have n0_ := Aside0.mk (Kd.S_below (by (with_reducible repeat (first|apply Kd.S_alloc|apply Kd.S_drewN|apply Kd.S_drew));exact HO169.out) hb);have n1_ := Aside0.mk (Kd.S_below (by (with_reducible repeat (first|apply Kd.S_alloc|apply Kd.S_drewN|apply Kd.S_drew));exact HO174.out) hb);have n2_ := Aside0.mk (Kd.S_below (by (with_reducible repeat (first|apply Kd.S_alloc|apply Kd.S_drewN|apply Kd.S_drew));exact HO176.out) hb);have n3_ := Aside0.mk (Kd.S_lower ho0 (below_size (by repeat (first|(with_reducible first|exact HB.out|apply below_alloc|apply pw_below_drewN|apply below_drew1)|exact HB.out))));have n4_ := Aside0.mk (below_step (by repeat (first|(with_reducible first|exact HB.out|apply below_alloc|apply pw_below_drewN|apply below_drew1)|exact HB.out)) hb);clear HO169;clear HO174;clear HO176;clear HB;have HO169 := n0_;have HO174 := n1_;have HO176 := n2_;have HO179 := n3_;have HB := n4_;clear n0_ n1_ n2_ n3_ n4_;(try clear hb);(try clear hb2);(try clear hk);(try clear hi);(try clear ho0)))
    go_ret
    exact ⟨by first|rfl|(simp [errW_none,errW_some] <;> rfl)|(simp [*,errW_none,errW_some] <;> rfl),by repeat (first|(with_reducible first|exact HB.out|apply below_alloc|apply pw_below_drewN|apply below_drew1)|exact HB.out)⟩
  ·rw [if_neg c4] at H
   have c4b0 : ((t170.length : Int) == 2) = false := beq_eq_false_iff_ne.mpr c4
   have c4b1 : ((t170.length : Int) != 2) = true := bne_iff_ne.mpr c4
   obtain rfl := Option.some.inj H
   go_enter Try.func9, Try.ntmps9
   go_wp2_with (first|((with_reducible refine gate_dst (N := 7) rfl ?_);(try (refine gate_guard (by rfl) ?_;dsimp only));refine Kd.S_lit k38 _ 38 ?hg (N := 7) ?hd (xs := ([(⟨2,5,9,([] : List Int),0⟩ : S38)] : List (S38))) (inner := [.int .i64 2,.int .i64 5,.int .i64 9,.slice none 0 0,.int .i64 0]) (ok := fun _ => True) (okp := fun _ => True) ?hr ?hp (fun _ hk => hk) trivial (Below.refl _ _) (Nat.le_refl _) (by simp) ?_;(case hd => rfl);(case hg => rfl);(case hr => first|(go_simp;done)|(go_simp;rfl));(case hp => exact (Reps.c5 (show Kd.M k38 _ _ _ (⟨2,5,9,([] : List Int),0⟩ : S38) [.int .i64 2,.int .i64 5,.int .i64 9,.slice none 0 0,.int .i64 0] from (k38_mkM _ _ _ (⟨2,5,9,([] : List Int),0⟩ : S38) (Kd.R_nil _ _ _ _ _))) (Reps.none _ _)));intro v168 w31 ho32 hb hg_ hnew_;clear hg_ hnew_;(first|rw [← Ny167.out] at ho32|(simp only [Int.reduceToNat] at ho32;rw [← Ny167.out] at ho32));have n0_ := Aside0.mk (Kd.S_lower ho32 (below_size (by repeat (first|(with_reducible first|exact HB.out|apply below_alloc|apply pw_below_drewN|apply below_drew1)|exact HB.out))));have n1_ := Aside0.mk (below_step (by repeat (first|(with_reducible first|exact HB.out|apply below_alloc|apply pw_below_drewN|apply below_drew1)|exact HB.out)) hb);clear HB;have HO169 := n0_;have HB := n1_;clear n0_ n1_;clear hb ho32;obtain ⟨Ao33,co33,eo33⟩ := Kd.S_slice HO169.out;subst eo33)|((with_reducible refine gate_callee (f := 11) rfl ?_);refine goesL_ (some 8) rfl rfl Try.func11 (by kernel_rfl) rfl #[.int .i64 2,.slice Ao33 y167.length co33] rfl (by (try simp only [List.map_toArray,List.map_cons,List.map_nil]);first|done|rfl|(simp only [List.length_drop,List.length_take];rfl)) ?_;(with_reducible refine (page_Build.calls k 2 _ _ y167 t170 t171 t172 _ ?side1 ?side2 A1.out).mono ?_);(case side1 => repeat (first|exact (Kd.S_reads' HO169.out).2.2|(with_reducible refine Kd.C_alloc ?_ _)|(with_reducible refine Kd.C_drewN ?_ _)|(with_reducible refine Kd.C_drew ?_)));(case side2 => exact (Kd.S_reads' HO169.out).2.1);rintro e w34 ⟨v173,v175,rfl,ho0,ho1,hb⟩;refine ⟨_,rfl,?_⟩;have n0_ := Aside0.mk (Kd.S_below (by (with_reducible repeat (first|apply Kd.S_alloc|apply Kd.S_drewN|apply Kd.S_drew));exact HO169.out) hb);have n1_ := Aside0.mk (Kd.S_lower ho0 (below_size (by repeat (first|(with_reducible first|exact HB.out|apply below_alloc|apply pw_below_drewN|apply below_drew1)|exact HB.out))));have n2_ := Aside0.mk (Kd.S_lower ho1 (below_size (by repeat (first|(with_reducible first|exact HB.out|apply below_alloc|apply pw_below_drewN|apply below_drew1)|exact HB.out))));have n3_ := Aside0.mk (below_step (by repeat (first|(with_reducible first|exact HB.out|apply below_alloc|apply pw_below_drewN|apply below_drew1)|exact HB.out)) hb);clear HO169;clear HB;have HO169 := n0_;have HO174 := n1_;have HO176 := n2_;have HB := n3_;clear n0_ n1_ n2_ n3_;(try clear hb);(try clear hb2);(try clear hk);(try clear hi);(try clear ho0);(try clear ho1);obtain ⟨Ao35,co35,eo35⟩ := Kd.S_slice HO174.out;subst eo35;obtain ⟨Ao36,co36,eo36⟩ := Kd.S_slice HO176.out;subst eo36)|((with_reducible refine gate_callee (f := 16) rfl ?_);refine goesL_ (some 14) rfl rfl Try.func16 (by kernel_rfl) rfl #[.slice Ao35 t170.length co35,.slice Ao36 t171.length co36] rfl (by (try simp only [List.map_toArray,List.map_cons,List.map_nil]);first|done|rfl|(simp only [List.length_drop,List.length_take];rfl)) ?_;(with_reducible refine (page_Read.calls k _ _ t170 _ _ t171 t177 _ ?side1 ?side2 ?side3 ?side4 A2.out).mono ?_);(case side1 => repeat (first|exact (Kd.S_reads' HO174.out).2.2|(with_reducible refine Kd.C_alloc ?_ _)|(with_reducible refine Kd.C_drewN ?_ _)|(with_reducible refine Kd.C_drew ?_)));(case side2 => exact (Kd.S_reads' HO174.out).2.1);(case side3 => repeat (first|exact (Kd.S_reads' HO176.out).2.2|(with_reducible refine Kd.C_alloc ?_ _)|(with_reducible refine Kd.C_drewN ?_ _)|(with_reducible refine Kd.C_drew ?_)));(case side4 => exact (Kd.S_reads' HO176.out).2.1);rintro e w37 ⟨v178,rfl,ho0,hb⟩;refine ⟨_,rfl,?_⟩;have n0_ := Aside0.mk (Kd.S_below (by (with_reducible repeat (first|apply Kd.S_alloc|apply Kd.S_drewN|apply Kd.S_drew));exact HO169.out) hb);have n1_ := Aside0.mk (Kd.S_below (by (with_reducible repeat (first|apply Kd.S_alloc|apply Kd.S_drewN|apply Kd.S_drew));exact HO174.out) hb);have n2_ := Aside0.mk (Kd.S_below (by (with_reducible repeat (first|apply Kd.S_alloc|apply Kd.S_drewN|apply Kd.S_drew));exact HO176.out) hb);have n3_ := Aside0.mk (Kd.S_lower ho0 (below_size (by repeat (first|(with_reducible first|exact HB.out|apply below_alloc|apply pw_below_drewN|apply below_drew1)|exact HB.out))));have n4_ := Aside0.mk (below_step (by repeat (first|(with_reducible first|exact HB.out|apply below_alloc|apply pw_below_drewN|apply below_drew1)|exact HB.out)) hb);clear HO169;clear HO174;clear HO176;clear HB;have HO169 := n0_;have HO174 := n1_;have HO176 := n2_;have HO179 := n3_;have HB := n4_;clear n0_ n1_ n2_ n3_ n4_;(try clear hb);(try clear hb2);(try clear hk);(try clear hi);(try clear ho0)))
   go_ret
   exact ⟨by first|rfl|(simp [errW_none,errW_some] <;> rfl)|(simp [*,errW_none,errW_some] <;> rfl),by repeat (first|(with_reducible first|exact HB.out|apply below_alloc|apply pw_below_drewN|apply below_drew1)|exact HB.out)⟩
 ·rw [if_neg c3] at H
  have c3b0 : (t172 == 0) = false := beq_eq_false_iff_ne.mpr c3
  have c3b1 : (t172 != 0) = true := bne_iff_ne.mpr c3
  obtain rfl := Option.some.inj H
  go_enter Try.func9, Try.ntmps9
  go_wp2_with (first|((with_reducible refine gate_dst (N := 7) rfl ?_);(try (refine gate_guard (by rfl) ?_;dsimp only));refine Kd.S_lit k38 _ 38 ?hg (N := 7) ?hd (xs := ([(⟨2,5,9,([] : List Int),0⟩ : S38)] : List (S38))) (inner := [.int .i64 2,.int .i64 5,.int .i64 9,.slice none 0 0,.int .i64 0]) (ok := fun _ => True) (okp := fun _ => True) ?hr ?hp (fun _ hk => hk) trivial (Below.refl _ _) (Nat.le_refl _) (by simp) ?_;(case hd => rfl);(case hg => rfl);(case hr => first|(go_simp;done)|(go_simp;rfl));(case hp => exact (Reps.c5 (show Kd.M k38 _ _ _ (⟨2,5,9,([] : List Int),0⟩ : S38) [.int .i64 2,.int .i64 5,.int .i64 9,.slice none 0 0,.int .i64 0] from (k38_mkM _ _ _ (⟨2,5,9,([] : List Int),0⟩ : S38) (Kd.R_nil _ _ _ _ _))) (Reps.none _ _)));intro v168 w38 ho39 hb hg_ hnew_;clear hg_ hnew_;(first|rw [← Ny167.out] at ho39|(simp only [Int.reduceToNat] at ho39;rw [← Ny167.out] at ho39));have n0_ := Aside0.mk (Kd.S_lower ho39 (below_size (by repeat (first|(with_reducible first|exact HB.out|apply below_alloc|apply pw_below_drewN|apply below_drew1)|exact HB.out))));have n1_ := Aside0.mk (below_step (by repeat (first|(with_reducible first|exact HB.out|apply below_alloc|apply pw_below_drewN|apply below_drew1)|exact HB.out)) hb);clear HB;have HO169 := n0_;have HB := n1_;clear n0_ n1_;clear hb ho39;obtain ⟨Ao40,co40,eo40⟩ := Kd.S_slice HO169.out;subst eo40)|((with_reducible refine gate_callee (f := 11) rfl ?_);refine goesL_ (some 8) rfl rfl Try.func11 (by kernel_rfl) rfl #[.int .i64 2,.slice Ao40 y167.length co40] rfl (by (try simp only [List.map_toArray,List.map_cons,List.map_nil]);first|done|rfl|(simp only [List.length_drop,List.length_take];rfl)) ?_;(with_reducible refine (page_Build.calls k 2 _ _ y167 t170 t171 t172 _ ?side1 ?side2 A1.out).mono ?_);(case side1 => repeat (first|exact (Kd.S_reads' HO169.out).2.2|(with_reducible refine Kd.C_alloc ?_ _)|(with_reducible refine Kd.C_drewN ?_ _)|(with_reducible refine Kd.C_drew ?_)));(case side2 => exact (Kd.S_reads' HO169.out).2.1);rintro e w41 ⟨v173,v175,rfl,ho0,ho1,hb⟩;refine ⟨_,rfl,?_⟩;have n0_ := Aside0.mk (Kd.S_below (by (with_reducible repeat (first|apply Kd.S_alloc|apply Kd.S_drewN|apply Kd.S_drew));exact HO169.out) hb);have n1_ := Aside0.mk (Kd.S_lower ho0 (below_size (by repeat (first|(with_reducible first|exact HB.out|apply below_alloc|apply pw_below_drewN|apply below_drew1)|exact HB.out))));have n2_ := Aside0.mk (Kd.S_lower ho1 (below_size (by repeat (first|(with_reducible first|exact HB.out|apply below_alloc|apply pw_below_drewN|apply below_drew1)|exact HB.out))));have n3_ := Aside0.mk (below_step (by repeat (first|(with_reducible first|exact HB.out|apply below_alloc|apply pw_below_drewN|apply below_drew1)|exact HB.out)) hb);clear HO169;clear HB;have HO169 := n0_;have HO174 := n1_;have HO176 := n2_;have HB := n3_;clear n0_ n1_ n2_ n3_;(try clear hb);(try clear hb2);(try clear hk);(try clear hi);(try clear ho0);(try clear ho1);obtain ⟨Ao42,co42,eo42⟩ := Kd.S_slice HO174.out;subst eo42;obtain ⟨Ao43,co43,eo43⟩ := Kd.S_slice HO176.out;subst eo43)|((with_reducible refine gate_callee (f := 16) rfl ?_);refine goesL_ (some 14) rfl rfl Try.func16 (by kernel_rfl) rfl #[.slice Ao42 t170.length co42,.slice Ao43 t171.length co43] rfl (by (try simp only [List.map_toArray,List.map_cons,List.map_nil]);first|done|rfl|(simp only [List.length_drop,List.length_take];rfl)) ?_;(with_reducible refine (page_Read.calls k _ _ t170 _ _ t171 t177 _ ?side1 ?side2 ?side3 ?side4 A2.out).mono ?_);(case side1 => repeat (first|exact (Kd.S_reads' HO174.out).2.2|(with_reducible refine Kd.C_alloc ?_ _)|(with_reducible refine Kd.C_drewN ?_ _)|(with_reducible refine Kd.C_drew ?_)));(case side2 => exact (Kd.S_reads' HO174.out).2.1);(case side3 => repeat (first|exact (Kd.S_reads' HO176.out).2.2|(with_reducible refine Kd.C_alloc ?_ _)|(with_reducible refine Kd.C_drewN ?_ _)|(with_reducible refine Kd.C_drew ?_)));(case side4 => exact (Kd.S_reads' HO176.out).2.1);rintro e w44 ⟨v178,rfl,ho0,hb⟩;refine ⟨_,rfl,?_⟩;have n0_ := Aside0.mk (Kd.S_below (by (with_reducible repeat (first|apply Kd.S_alloc|apply Kd.S_drewN|apply Kd.S_drew));exact HO169.out) hb);have n1_ := Aside0.mk (Kd.S_below (by (with_reducible repeat (first|apply Kd.S_alloc|apply Kd.S_drewN|apply Kd.S_drew));exact HO174.out) hb);have n2_ := Aside0.mk (Kd.S_below (by (with_reducible repeat (first|apply Kd.S_alloc|apply Kd.S_drewN|apply Kd.S_drew));exact HO176.out) hb);have n3_ := Aside0.mk (Kd.S_lower ho0 (below_size (by repeat (first|(with_reducible first|exact HB.out|apply below_alloc|apply pw_below_drewN|apply below_drew1)|exact HB.out))));have n4_ := Aside0.mk (below_step (by repeat (first|(with_reducible first|exact HB.out|apply below_alloc|apply pw_below_drewN|apply below_drew1)|exact HB.out)) hb);clear HO169;clear HO174;clear HO176;clear HB;have HO169 := n0_;have HO174 := n1_;have HO176 := n2_;have HO179 := n3_;have HB := n4_;clear n0_ n1_ n2_ n3_ n4_;(try clear hb);(try clear hb2);(try clear hk);(try clear hi);(try clear ho0)))
  go_ret
  exact ⟨by first|rfl|(simp [errW_none,errW_some] <;> rfl)|(simp [*,errW_none,errW_some] <;> rfl),by repeat (first|(with_reducible first|exact HB.out|apply below_alloc|apply pw_below_drewN|apply below_drew1)|exact HB.out)⟩

end Go.Proofs.Ythoebkkohdfgeaa.X
