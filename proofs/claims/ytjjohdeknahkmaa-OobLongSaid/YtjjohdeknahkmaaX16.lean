-- laid by wip/tools/xprint.py (our own changes over the printer)
import Derived.Test.YtjjohdeknahkmaaX0
import Derived.Test.YtjjohdeknahkmaaX5
import Derived.Laws.CopyOwn
import Derived.Deep.RegionWith
import Derived.Deep.RegionLaw
namespace Go.Proofs.Ytjjohdeknahkmaa.X
open Go.RowKit Go.Proofs.YtjjohdeknahkmaaW.PrintWords Go.Proofs.YtjjohdeknahkmaaW.PrintLast Go.Proofs.YtjjohdeknahkmaaW.PrintMore
attribute [local go_sem] max2_int min2_int max_two min_two max_three min_three max_four min_four   -- for this text's walks alone
set_option linter.unusedVariables false
set_option linter.unusedSimpArgs false

/-! ### oob_laid: function 35 -/
/-- four bytes of a made row, as cells -/
theorem four_cells {w : World} {v : Value} {base : Nat} {ok : Nat → Prop} {a b c d : Int} (h : Kd.R (Kd.int .u8) 5 w base ok v [a, b, c, d]) :
    ∃ ad cp, v = .slice (some ad) 4 cp ∧ ∀ j u, [Value.int .u8 a, .int .u8 b, .int .u8 c, .int .u8 d][j]? = some u → w.cell? (ad.add j) = some u := by
  obtain ⟨A, cp, rfl, _, hl, hm, hr⟩ := Kd.R_reads h
  obtain ⟨ad, rfl, hc⟩ := hr (by simp)
  refine ⟨ad, cp, rfl, fun j u hj => ?_⟩
  match j, hj with
  | 0, hj => obtain ⟨c', hl', hk, hcell⟩ := hc 0 a rfl
             obtain rfl : c' = [.int .u8 a] := hk
             simp at hj; exact hcell 0 u (by simpa using hj)
  | 1, hj => obtain ⟨c', hl', hk, hcell⟩ := hc 1 b rfl
             obtain rfl : c' = [.int .u8 b] := hk
             simp at hj; exact hcell 0 u (by simpa using hj)
  | 2, hj => obtain ⟨c', hl', hk, hcell⟩ := hc 2 c rfl
             obtain rfl : c' = [.int .u8 c] := hk
             simp at hj; exact hcell 0 u (by simpa using hj)
  | 3, hj => obtain ⟨c', hl', hk, hcell⟩ := hc 3 d rfl
             obtain rfl : c' = [.int .u8 d] := hk
             simp at hj; exact hcell 0 u (by simpa using hj)
  | j + 4, hj => simp at hj
set_option maxHeartbeats 1000000 in
set_option maxRecDepth 100000 in
theorem oob_laid.walk (a0 a1 a2 : Int) (w : World) :
    Calls Try.prog 35 #[.agg #[.int .i64 a0, .int .i64 a1, .int .i64 a2]] w fun e w' => e = .returned (.agg (([Value.int .u8 (a0 % 256), Value.int .u8 (a1 % 256), Value.int .u8 (a1 % 4294967296 / 256 % 256), Value.int .u8 (a1 % 4294967296 / 65536 % 256), Value.int .u8 (a1 % 4294967296 / 16777216 % 256), Value.int .u8 (a2 % 256), Value.int .u8 (a2 % 4294967296 / 256 % 256), Value.int .u8 (a2 % 4294967296 / 65536 % 256), Value.int .u8 (a2 % 4294967296 / 16777216 % 256), Value.int .u8 (a2 / 4294967296 % 256), Value.int .u8 (a2 / 4294967296 % 4294967296 / 256 % 256), Value.int .u8 (a2 / 4294967296 % 4294967296 / 65536 % 256), Value.int .u8 (a2 / 4294967296 % 4294967296 / 16777216 % 256)] : List Value).toArray)) ∧ Below w.heap.size w w' := by
  have hu55 := Try.underlying55
  have hu31 := Try.underlying31
  go_enter Try.func35, Try.ntmps35
  go_wp2_with (first
    | ((with_reducible refine gate_dst (N := 1) rfl ?_); refine box_event ?hg (N := 1) ?hd (cs := #[.int .i64 a0, .int .i64 a1, .int .i64 a2]) (t := 31) ?hr ?_; (case hd => rfl); (case hg => rfl); (case hr => first | (go_simp; done) | (go_simp; rfl)); intro g1 hg1 w1 hx1 hb1; have G1 := Aside0.mk hg1; have X1 := Aside0.mk hx1; have B1 := Aside0.mk hb1; clear hg1 hx1 hb1)
    | ((with_reducible refine gate_dst (N := 2) rfl ?_); refine box_event ?hg (N := 2) ?hd (cs := (List.replicate 13 (Value.int .u8 0)).toArray) (t := 55) ?hr ?_; (case hd => rfl); (case hg => rfl); (case hr => first | (go_simp; done) | (go_simp; rfl)); intro g2 hg2 w2 hx2 hb2; have G2 := Aside0.mk hg2; have X2 := Aside0.mk hx2; have B2 := Aside0.mk hb2; clear hg2 hx2 hb2)
    | ((with_reducible refine gate_dst (N := 3) rfl ?_); refine box_event ?hg (N := 3) ?hd (cs := (List.replicate 13 (Value.int .u8 0)).toArray) (t := 55) ?hr ?_; (case hd => rfl); (case hg => rfl); (case hr => first | (go_simp; done) | (go_simp; rfl)); intro g3 hg3 w3 hx3 hb3; have G3 := Aside0.mk hg3; have X3 := Aside0.mk hx3; have B3 := Aside0.mk hb3; clear hg3 hx3 hb3; have hc1 := blk_cell (blk_below (blk_below X1.out B2.out) B3.out) 0; have hc3 := blk_cell X3.out 0; have hf3 := blk_frozen X3.out 0; simp only [List.getElem?_toArray, List.getElem?_cons_zero] at hc1 hc3))
  have XA : Aside0 ((w3.setCell ⟨g3, 0, none⟩ (.int .u8 (a0 % 256))).heap[g1]? = some (.cells #[.int .i64 a0, .int .i64 a1, .int .i64 a2] 31 (0, 0))) := ⟨blk_far (blk_below (blk_below X1.out B2.out) B3.out) (by have := blk_lt X1.out; have := G2.out; have := B2.out.size; have := G3.out; intro h; simp at h; omega) _⟩
  have XB : Aside0 ((w3.setCell ⟨g3, 0, none⟩ (.int .u8 (a0 % 256))).heap[g2]? = some (.cells (List.replicate 13 (Value.int .u8 0)).toArray 55 (0, 0))) := ⟨blk_far (blk_below X2.out B3.out) (by have := blk_lt X2.out; have := G3.out; intro h; simp at h; omega) _⟩
  have XC : Aside0 ((w3.setCell ⟨g3, 0, none⟩ (.int .u8 (a0 % 256))).heap[g3]? = some (.cells ([Value.int .u8 (a0 % 256), Value.int .u8 0, Value.int .u8 0, Value.int .u8 0, Value.int .u8 0, Value.int .u8 0, Value.int .u8 0, Value.int .u8 0, Value.int .u8 0, Value.int .u8 0, Value.int .u8 0, Value.int .u8 0, Value.int .u8 0] : List Value).toArray 55 (0, 0))) := ⟨blk_put X3.out 0 _ rfl⟩
  have hg1 : g1 < g3 := by have := blk_lt X1.out; have := G2.out; have := B2.out.size; have := G3.out; omega
  have hg2 : g2 < g3 := by have := blk_lt X2.out; have := G3.out; omega
  have BW : Aside0 (Below w.heap.size w (w3.setCell ⟨g3, 0, none⟩ (.int .u8 (a0 % 256)))) := ⟨below_set (below_step (below_step B1.out B2.out) B3.out) (by have := G1.out; omega)⟩
  have HG2 : Aside0 (w.heap.size ≤ g2) := ⟨by have := G1.out; have := blk_lt X1.out; have := G2.out; have := B1.out.size; have := B2.out.size; omega⟩
  have hgw : Aside0 (w.heap.size ≤ g3) := ⟨by have := G1.out; omega⟩
  clear G1 G2 G3 X1 X2 X3 B1 B2 B3 hf3 hc1 hc3
  generalize w3.setCell ⟨g3, 0, none⟩ (.int .u8 (a0 % 256)) = W0 at XA XB XC BW ⊢
  have K1 := Aside0.mk hg1
  have K2 := Aside0.mk hg2
  clear hg1 hg2
  have hc1 := blk_cell XA.out 1
  simp only [List.getElem?_toArray, List.getElem?_cons_zero, List.getElem?_cons_succ] at hc1
  go_region_law (first
    | (refine goes_ (f := 33) Try.func33 (by kernel_rfl) rfl #[.int .u32 (a1 % 4294967296)] (by rfl) rfl rfl (by simp only [List.map_toArray, List.map_cons, List.map_nil]; rfl) ?_; (with_reducible refine (wire_Fixed.calls (a1 % 4294967296) _ _ rfl).mono ?_); rintro e wa1 ⟨v4, rfl, ho4, hb4⟩; refine ⟨_, rfl, ?_⟩; obtain ⟨ad4, cp4, rfl, hc4⟩ := four_cells ho4; have n1_ := Aside0.mk (blk_below (g := g1) (o := .cells #[.int .i64 a0, .int .i64 a1, .int .i64 a2] 31 (0, 0)) (blk_drew XA.out) hb4); have n2_ := Aside0.mk (blk_below (g := g2) (o := .cells (List.replicate 13 (Value.int .u8 0)).toArray 55 (0, 0)) (blk_drew XB.out) hb4); have n3_ := Aside0.mk (blk_below (g := g3) (o := .cells ([Value.int .u8 (a0 % 256), Value.int .u8 0, Value.int .u8 0, Value.int .u8 0, Value.int .u8 0, Value.int .u8 0, Value.int .u8 0, Value.int .u8 0, Value.int .u8 0, Value.int .u8 0, Value.int .u8 0, Value.int .u8 0, Value.int .u8 0] : List Value).toArray 55 (0, 0)) (blk_drew XC.out) hb4); have n4_ := Aside0.mk (below_step (below_drew1 BW.out) hb4); have C4 := Aside0.mk hc4; clear hc4 ho4 hb4 XA XB XC BW hc1; have XA := n1_; have XB := n2_; have XC := n3_; have BW := n4_; clear n1_ n2_ n3_ n4_)
    | (refine step_copy_splice rfl (.tmp 8) (.tmp 12) 25 25 rfl 5 Try.underlying25 (by kernel_rfl) (some ⟨g3, 1, none⟩) (some ad4) 12 12 4 cp4 rfl rfl g3 1 [Value.int .u8 (a0 % 256), Value.int .u8 0, Value.int .u8 0, Value.int .u8 0, Value.int .u8 0, Value.int .u8 0, Value.int .u8 0, Value.int .u8 0, Value.int .u8 0, Value.int .u8 0, Value.int .u8 0, Value.int .u8 0, Value.int .u8 0] 55 XC.out [.int .u8 (a1 % 4294967296 % 256), .int .u8 (a1 % 4294967296 / 256 % 256), .int .u8 (a1 % 4294967296 / 65536 % 256), .int .u8 (a1 % 4294967296 / 16777216 % 256)] rfl (fun _ => ⟨rfl, ad4, rfl, C4.out⟩) (by simp) (by simp [Value.oneCell']) g3 wa1 (Below.refl _ _) (Nat.le_refl _) ?_; intro wb1 hg5 hb5))
  have n1_ : Aside0 (wb1.heap[g1]? = some (.cells #[.int .i64 a0, .int .i64 a1, .int .i64 a2] 31 (0, 0))) := ⟨(hb5.block g1 K1.out).trans XA.out⟩
  have n2_ : Aside0 (wb1.heap[g2]? = some (.cells (List.replicate 13 (Value.int .u8 0)).toArray 55 (0, 0))) := ⟨(hb5.block g2 K2.out).trans XB.out⟩
  have n3_ : Aside0 (wb1.heap[g3]? = some (.cells ([Value.int .u8 (a0 % 256), Value.int .u8 (a1 % 4294967296 % 256), Value.int .u8 (a1 % 4294967296 / 256 % 256), Value.int .u8 (a1 % 4294967296 / 65536 % 256), Value.int .u8 (a1 % 4294967296 / 16777216 % 256), Value.int .u8 0, Value.int .u8 0, Value.int .u8 0, Value.int .u8 0, Value.int .u8 0, Value.int .u8 0, Value.int .u8 0, Value.int .u8 0] : List Value).toArray 55 (0, 0))) := ⟨hg5.out⟩
  have n4_ : Aside0 (Below w.heap.size w wb1) := ⟨BW.out.trans (hb5.mono hgw.out)⟩
  clear XA XB XC BW C4 hg5 hb5
  have XA := n1_
  have XB := n2_
  have XC := n3_
  have BW := n4_
  clear n1_ n2_ n3_ n4_
  go_wp2_with fail
  have hc2 := blk_cell XA.out 2
  simp only [List.getElem?_toArray, List.getElem?_cons_zero, List.getElem?_cons_succ] at hc2
  go_region_law (first
    | (refine goes_ (f := 33) Try.func33 (by kernel_rfl) rfl #[.int .u32 (a2 % 4294967296)] (by rfl) rfl rfl (by simp only [List.map_toArray, List.map_cons, List.map_nil]; rfl) ?_; (with_reducible refine (wire_Fixed.calls (a2 % 4294967296) _ _ rfl).mono ?_); rintro e wa2 ⟨v4, rfl, ho4, hb4⟩; refine ⟨_, rfl, ?_⟩; obtain ⟨ad4, cp4, rfl, hc4⟩ := four_cells ho4; have n1_ := Aside0.mk (blk_below (g := g1) (o := .cells #[.int .i64 a0, .int .i64 a1, .int .i64 a2] 31 (0, 0)) (blk_drew XA.out) hb4); have n2_ := Aside0.mk (blk_below (g := g2) (o := .cells (List.replicate 13 (Value.int .u8 0)).toArray 55 (0, 0)) (blk_drew XB.out) hb4); have n3_ := Aside0.mk (blk_below (g := g3) (o := .cells ([Value.int .u8 (a0 % 256), Value.int .u8 (a1 % 4294967296 % 256), Value.int .u8 (a1 % 4294967296 / 256 % 256), Value.int .u8 (a1 % 4294967296 / 65536 % 256), Value.int .u8 (a1 % 4294967296 / 16777216 % 256), Value.int .u8 0, Value.int .u8 0, Value.int .u8 0, Value.int .u8 0, Value.int .u8 0, Value.int .u8 0, Value.int .u8 0, Value.int .u8 0] : List Value).toArray 55 (0, 0)) (blk_drew XC.out) hb4); have n4_ := Aside0.mk (below_step (below_drew1 BW.out) hb4); have C4 := Aside0.mk hc4; clear hc4 ho4 hb4 XA XB XC BW hc2; have XA := n1_; have XB := n2_; have XC := n3_; have BW := n4_; clear n1_ n2_ n3_ n4_)
    | (refine step_copy_splice rfl (.tmp 14) (.tmp 18) 25 25 rfl 5 Try.underlying25 (by kernel_rfl) (some ⟨g3, 5, none⟩) (some ad4) 8 8 4 cp4 rfl rfl g3 5 [Value.int .u8 (a0 % 256), Value.int .u8 (a1 % 4294967296 % 256), Value.int .u8 (a1 % 4294967296 / 256 % 256), Value.int .u8 (a1 % 4294967296 / 65536 % 256), Value.int .u8 (a1 % 4294967296 / 16777216 % 256), Value.int .u8 0, Value.int .u8 0, Value.int .u8 0, Value.int .u8 0, Value.int .u8 0, Value.int .u8 0, Value.int .u8 0, Value.int .u8 0] 55 XC.out [.int .u8 (a2 % 4294967296 % 256), .int .u8 (a2 % 4294967296 / 256 % 256), .int .u8 (a2 % 4294967296 / 65536 % 256), .int .u8 (a2 % 4294967296 / 16777216 % 256)] rfl (fun _ => ⟨rfl, ad4, rfl, C4.out⟩) (by simp) (by simp [Value.oneCell']) g3 wa2 (Below.refl _ _) (Nat.le_refl _) ?_; intro wb2 hg5 hb5))
  have n1_ : Aside0 (wb2.heap[g1]? = some (.cells #[.int .i64 a0, .int .i64 a1, .int .i64 a2] 31 (0, 0))) := ⟨(hb5.block g1 K1.out).trans XA.out⟩
  have n2_ : Aside0 (wb2.heap[g2]? = some (.cells (List.replicate 13 (Value.int .u8 0)).toArray 55 (0, 0))) := ⟨(hb5.block g2 K2.out).trans XB.out⟩
  have n3_ : Aside0 (wb2.heap[g3]? = some (.cells ([Value.int .u8 (a0 % 256), Value.int .u8 (a1 % 4294967296 % 256), Value.int .u8 (a1 % 4294967296 / 256 % 256), Value.int .u8 (a1 % 4294967296 / 65536 % 256), Value.int .u8 (a1 % 4294967296 / 16777216 % 256), Value.int .u8 (a2 % 4294967296 % 256), Value.int .u8 (a2 % 4294967296 / 256 % 256), Value.int .u8 (a2 % 4294967296 / 65536 % 256), Value.int .u8 (a2 % 4294967296 / 16777216 % 256), Value.int .u8 0, Value.int .u8 0, Value.int .u8 0, Value.int .u8 0] : List Value).toArray 55 (0, 0))) := ⟨hg5.out⟩
  have n4_ : Aside0 (Below w.heap.size w wb2) := ⟨BW.out.trans (hb5.mono hgw.out)⟩
  clear XA XB XC BW C4 hg5 hb5
  have XA := n1_
  have XB := n2_
  have XC := n3_
  have BW := n4_
  clear n1_ n2_ n3_ n4_
  go_wp2_with fail
  have hc3 := blk_cell XA.out 2
  simp only [List.getElem?_toArray, List.getElem?_cons_zero, List.getElem?_cons_succ] at hc3
  go_region_law (first
    | (refine goes_ (f := 33) Try.func33 (by kernel_rfl) rfl #[.int .u32 (a2 / 4294967296 % 4294967296)] (by rfl) rfl rfl (by simp only [List.map_toArray, List.map_cons, List.map_nil]; rfl) ?_; (with_reducible refine (wire_Fixed.calls (a2 / 4294967296 % 4294967296) _ _ rfl).mono ?_); rintro e wa3 ⟨v4, rfl, ho4, hb4⟩; refine ⟨_, rfl, ?_⟩; obtain ⟨ad4, cp4, rfl, hc4⟩ := four_cells ho4; have n1_ := Aside0.mk (blk_below (g := g1) (o := .cells #[.int .i64 a0, .int .i64 a1, .int .i64 a2] 31 (0, 0)) (blk_drew XA.out) hb4); have n2_ := Aside0.mk (blk_below (g := g2) (o := .cells (List.replicate 13 (Value.int .u8 0)).toArray 55 (0, 0)) (blk_drew XB.out) hb4); have n3_ := Aside0.mk (blk_below (g := g3) (o := .cells ([Value.int .u8 (a0 % 256), Value.int .u8 (a1 % 4294967296 % 256), Value.int .u8 (a1 % 4294967296 / 256 % 256), Value.int .u8 (a1 % 4294967296 / 65536 % 256), Value.int .u8 (a1 % 4294967296 / 16777216 % 256), Value.int .u8 (a2 % 4294967296 % 256), Value.int .u8 (a2 % 4294967296 / 256 % 256), Value.int .u8 (a2 % 4294967296 / 65536 % 256), Value.int .u8 (a2 % 4294967296 / 16777216 % 256), Value.int .u8 0, Value.int .u8 0, Value.int .u8 0, Value.int .u8 0] : List Value).toArray 55 (0, 0)) (blk_drew XC.out) hb4); have n4_ := Aside0.mk (below_step (below_drew1 BW.out) hb4); have C4 := Aside0.mk hc4; clear hc4 ho4 hb4 XA XB XC BW hc3; have XA := n1_; have XB := n2_; have XC := n3_; have BW := n4_; clear n1_ n2_ n3_ n4_)
    | (refine step_copy_splice rfl (.tmp 20) (.tmp 25) 25 25 rfl 5 Try.underlying25 (by kernel_rfl) (some ⟨g3, 9, none⟩) (some ad4) 4 4 4 cp4 rfl rfl g3 9 [Value.int .u8 (a0 % 256), Value.int .u8 (a1 % 4294967296 % 256), Value.int .u8 (a1 % 4294967296 / 256 % 256), Value.int .u8 (a1 % 4294967296 / 65536 % 256), Value.int .u8 (a1 % 4294967296 / 16777216 % 256), Value.int .u8 (a2 % 4294967296 % 256), Value.int .u8 (a2 % 4294967296 / 256 % 256), Value.int .u8 (a2 % 4294967296 / 65536 % 256), Value.int .u8 (a2 % 4294967296 / 16777216 % 256), Value.int .u8 0, Value.int .u8 0, Value.int .u8 0, Value.int .u8 0] 55 XC.out [.int .u8 (a2 / 4294967296 % 4294967296 % 256), .int .u8 (a2 / 4294967296 % 4294967296 / 256 % 256), .int .u8 (a2 / 4294967296 % 4294967296 / 65536 % 256), .int .u8 (a2 / 4294967296 % 4294967296 / 16777216 % 256)] rfl (fun _ => ⟨rfl, ad4, rfl, C4.out⟩) (by simp) (by simp [Value.oneCell']) g3 wa3 (Below.refl _ _) (Nat.le_refl _) ?_; intro wb3 hg5 hb5))
  have n1_ : Aside0 (wb3.heap[g1]? = some (.cells #[.int .i64 a0, .int .i64 a1, .int .i64 a2] 31 (0, 0))) := ⟨(hb5.block g1 K1.out).trans XA.out⟩
  have n2_ : Aside0 (wb3.heap[g2]? = some (.cells (List.replicate 13 (Value.int .u8 0)).toArray 55 (0, 0))) := ⟨(hb5.block g2 K2.out).trans XB.out⟩
  have n3_ : Aside0 (wb3.heap[g3]? = some (.cells ([Value.int .u8 (a0 % 256), Value.int .u8 (a1 % 4294967296 % 256), Value.int .u8 (a1 % 4294967296 / 256 % 256), Value.int .u8 (a1 % 4294967296 / 65536 % 256), Value.int .u8 (a1 % 4294967296 / 16777216 % 256), Value.int .u8 (a2 % 4294967296 % 256), Value.int .u8 (a2 % 4294967296 / 256 % 256), Value.int .u8 (a2 % 4294967296 / 65536 % 256), Value.int .u8 (a2 % 4294967296 / 16777216 % 256), Value.int .u8 (a2 / 4294967296 % 4294967296 % 256), Value.int .u8 (a2 / 4294967296 % 4294967296 / 256 % 256), Value.int .u8 (a2 / 4294967296 % 4294967296 / 65536 % 256), Value.int .u8 (a2 / 4294967296 % 4294967296 / 16777216 % 256)] : List Value).toArray 55 (0, 0))) := ⟨hg5.out⟩
  have n4_ : Aside0 (Below w.heap.size w wb3) := ⟨BW.out.trans (hb5.mono hgw.out)⟩
  clear XA XB XC BW C4 hg5 hb5
  have XA := n1_
  have XB := n2_
  have XC := n3_
  have BW := n4_
  clear n1_ n2_ n3_ n4_
  have hl0 := blk_cell XC.out 0
  have hl1 := blk_cell XC.out 1
  have hl2 := blk_cell XC.out 2
  have hl3 := blk_cell XC.out 3
  have hl4 := blk_cell XC.out 4
  have hl5 := blk_cell XC.out 5
  have hl6 := blk_cell XC.out 6
  have hl7 := blk_cell XC.out 7
  have hl8 := blk_cell XC.out 8
  have hl9 := blk_cell XC.out 9
  have hl10 := blk_cell XC.out 10
  have hl11 := blk_cell XC.out 11
  have hl12 := blk_cell XC.out 12
  simp only [List.getElem?_toArray, List.getElem?_cons_zero, List.getElem?_cons_succ] at hl0 hl1 hl2 hl3 hl4 hl5 hl6 hl7 hl8 hl9 hl10 hl11 hl12
  have hr0 := blk_cell XB.out 0
  have hf0 := blk_frozen XB.out 0
  have hr1 := blk_cell XB.out 1
  have hf1 := blk_frozen XB.out 1
  have hr2 := blk_cell XB.out 2
  have hf2 := blk_frozen XB.out 2
  have hr3 := blk_cell XB.out 3
  have hf3 := blk_frozen XB.out 3
  have hr4 := blk_cell XB.out 4
  have hf4 := blk_frozen XB.out 4
  have hr5 := blk_cell XB.out 5
  have hf5 := blk_frozen XB.out 5
  have hr6 := blk_cell XB.out 6
  have hf6 := blk_frozen XB.out 6
  have hr7 := blk_cell XB.out 7
  have hf7 := blk_frozen XB.out 7
  have hr8 := blk_cell XB.out 8
  have hf8 := blk_frozen XB.out 8
  have hr9 := blk_cell XB.out 9
  have hf9 := blk_frozen XB.out 9
  have hr10 := blk_cell XB.out 10
  have hf10 := blk_frozen XB.out 10
  have hr11 := blk_cell XB.out 11
  have hf11 := blk_frozen XB.out 11
  have hr12 := blk_cell XB.out 12
  have hf12 := blk_frozen XB.out 12
  simp only [List.getElem?_toArray, List.getElem?_replicate, Nat.reduceLT, if_true] at hr0 hr1 hr2 hr3 hr4 hr5 hr6 hr7 hr8 hr9 hr10 hr11 hr12
  go_wp2
  have Y0 := blk_put (cs' := ([Value.int .u8 (a0 % 256), Value.int .u8 0, Value.int .u8 0, Value.int .u8 0, Value.int .u8 0, Value.int .u8 0, Value.int .u8 0, Value.int .u8 0, Value.int .u8 0, Value.int .u8 0, Value.int .u8 0, Value.int .u8 0, Value.int .u8 0] : List Value).toArray) XB.out 0 (.int .u8 (a0 % 256)) rfl
  have Y1 := blk_put (cs' := ([Value.int .u8 (a0 % 256), Value.int .u8 (a1 % 256), Value.int .u8 0, Value.int .u8 0, Value.int .u8 0, Value.int .u8 0, Value.int .u8 0, Value.int .u8 0, Value.int .u8 0, Value.int .u8 0, Value.int .u8 0, Value.int .u8 0, Value.int .u8 0] : List Value).toArray) Y0 1 (.int .u8 (a1 % 256)) rfl
  have Y2 := blk_put (cs' := ([Value.int .u8 (a0 % 256), Value.int .u8 (a1 % 256), Value.int .u8 (a1 % 4294967296 / 256 % 256), Value.int .u8 0, Value.int .u8 0, Value.int .u8 0, Value.int .u8 0, Value.int .u8 0, Value.int .u8 0, Value.int .u8 0, Value.int .u8 0, Value.int .u8 0, Value.int .u8 0] : List Value).toArray) Y1 2 (.int .u8 (a1 % 4294967296 / 256 % 256)) rfl
  have Y3 := blk_put (cs' := ([Value.int .u8 (a0 % 256), Value.int .u8 (a1 % 256), Value.int .u8 (a1 % 4294967296 / 256 % 256), Value.int .u8 (a1 % 4294967296 / 65536 % 256), Value.int .u8 0, Value.int .u8 0, Value.int .u8 0, Value.int .u8 0, Value.int .u8 0, Value.int .u8 0, Value.int .u8 0, Value.int .u8 0, Value.int .u8 0] : List Value).toArray) Y2 3 (.int .u8 (a1 % 4294967296 / 65536 % 256)) rfl
  have Y4 := blk_put (cs' := ([Value.int .u8 (a0 % 256), Value.int .u8 (a1 % 256), Value.int .u8 (a1 % 4294967296 / 256 % 256), Value.int .u8 (a1 % 4294967296 / 65536 % 256), Value.int .u8 (a1 % 4294967296 / 16777216 % 256), Value.int .u8 0, Value.int .u8 0, Value.int .u8 0, Value.int .u8 0, Value.int .u8 0, Value.int .u8 0, Value.int .u8 0, Value.int .u8 0] : List Value).toArray) Y3 4 (.int .u8 (a1 % 4294967296 / 16777216 % 256)) rfl
  have Y5 := blk_put (cs' := ([Value.int .u8 (a0 % 256), Value.int .u8 (a1 % 256), Value.int .u8 (a1 % 4294967296 / 256 % 256), Value.int .u8 (a1 % 4294967296 / 65536 % 256), Value.int .u8 (a1 % 4294967296 / 16777216 % 256), Value.int .u8 (a2 % 256), Value.int .u8 0, Value.int .u8 0, Value.int .u8 0, Value.int .u8 0, Value.int .u8 0, Value.int .u8 0, Value.int .u8 0] : List Value).toArray) Y4 5 (.int .u8 (a2 % 256)) rfl
  have Y6 := blk_put (cs' := ([Value.int .u8 (a0 % 256), Value.int .u8 (a1 % 256), Value.int .u8 (a1 % 4294967296 / 256 % 256), Value.int .u8 (a1 % 4294967296 / 65536 % 256), Value.int .u8 (a1 % 4294967296 / 16777216 % 256), Value.int .u8 (a2 % 256), Value.int .u8 (a2 % 4294967296 / 256 % 256), Value.int .u8 0, Value.int .u8 0, Value.int .u8 0, Value.int .u8 0, Value.int .u8 0, Value.int .u8 0] : List Value).toArray) Y5 6 (.int .u8 (a2 % 4294967296 / 256 % 256)) rfl
  have Y7 := blk_put (cs' := ([Value.int .u8 (a0 % 256), Value.int .u8 (a1 % 256), Value.int .u8 (a1 % 4294967296 / 256 % 256), Value.int .u8 (a1 % 4294967296 / 65536 % 256), Value.int .u8 (a1 % 4294967296 / 16777216 % 256), Value.int .u8 (a2 % 256), Value.int .u8 (a2 % 4294967296 / 256 % 256), Value.int .u8 (a2 % 4294967296 / 65536 % 256), Value.int .u8 0, Value.int .u8 0, Value.int .u8 0, Value.int .u8 0, Value.int .u8 0] : List Value).toArray) Y6 7 (.int .u8 (a2 % 4294967296 / 65536 % 256)) rfl
  have Y8 := blk_put (cs' := ([Value.int .u8 (a0 % 256), Value.int .u8 (a1 % 256), Value.int .u8 (a1 % 4294967296 / 256 % 256), Value.int .u8 (a1 % 4294967296 / 65536 % 256), Value.int .u8 (a1 % 4294967296 / 16777216 % 256), Value.int .u8 (a2 % 256), Value.int .u8 (a2 % 4294967296 / 256 % 256), Value.int .u8 (a2 % 4294967296 / 65536 % 256), Value.int .u8 (a2 % 4294967296 / 16777216 % 256), Value.int .u8 0, Value.int .u8 0, Value.int .u8 0, Value.int .u8 0] : List Value).toArray) Y7 8 (.int .u8 (a2 % 4294967296 / 16777216 % 256)) rfl
  have Y9 := blk_put (cs' := ([Value.int .u8 (a0 % 256), Value.int .u8 (a1 % 256), Value.int .u8 (a1 % 4294967296 / 256 % 256), Value.int .u8 (a1 % 4294967296 / 65536 % 256), Value.int .u8 (a1 % 4294967296 / 16777216 % 256), Value.int .u8 (a2 % 256), Value.int .u8 (a2 % 4294967296 / 256 % 256), Value.int .u8 (a2 % 4294967296 / 65536 % 256), Value.int .u8 (a2 % 4294967296 / 16777216 % 256), Value.int .u8 (a2 / 4294967296 % 256), Value.int .u8 0, Value.int .u8 0, Value.int .u8 0] : List Value).toArray) Y8 9 (.int .u8 (a2 / 4294967296 % 256)) rfl
  have Y10 := blk_put (cs' := ([Value.int .u8 (a0 % 256), Value.int .u8 (a1 % 256), Value.int .u8 (a1 % 4294967296 / 256 % 256), Value.int .u8 (a1 % 4294967296 / 65536 % 256), Value.int .u8 (a1 % 4294967296 / 16777216 % 256), Value.int .u8 (a2 % 256), Value.int .u8 (a2 % 4294967296 / 256 % 256), Value.int .u8 (a2 % 4294967296 / 65536 % 256), Value.int .u8 (a2 % 4294967296 / 16777216 % 256), Value.int .u8 (a2 / 4294967296 % 256), Value.int .u8 (a2 / 4294967296 % 4294967296 / 256 % 256), Value.int .u8 0, Value.int .u8 0] : List Value).toArray) Y9 10 (.int .u8 (a2 / 4294967296 % 4294967296 / 256 % 256)) rfl
  have Y11 := blk_put (cs' := ([Value.int .u8 (a0 % 256), Value.int .u8 (a1 % 256), Value.int .u8 (a1 % 4294967296 / 256 % 256), Value.int .u8 (a1 % 4294967296 / 65536 % 256), Value.int .u8 (a1 % 4294967296 / 16777216 % 256), Value.int .u8 (a2 % 256), Value.int .u8 (a2 % 4294967296 / 256 % 256), Value.int .u8 (a2 % 4294967296 / 65536 % 256), Value.int .u8 (a2 % 4294967296 / 16777216 % 256), Value.int .u8 (a2 / 4294967296 % 256), Value.int .u8 (a2 / 4294967296 % 4294967296 / 256 % 256), Value.int .u8 (a2 / 4294967296 % 4294967296 / 65536 % 256), Value.int .u8 0] : List Value).toArray) Y10 11 (.int .u8 (a2 / 4294967296 % 4294967296 / 65536 % 256)) rfl
  have Y12 := blk_put (cs' := ([Value.int .u8 (a0 % 256), Value.int .u8 (a1 % 256), Value.int .u8 (a1 % 4294967296 / 256 % 256), Value.int .u8 (a1 % 4294967296 / 65536 % 256), Value.int .u8 (a1 % 4294967296 / 16777216 % 256), Value.int .u8 (a2 % 256), Value.int .u8 (a2 % 4294967296 / 256 % 256), Value.int .u8 (a2 % 4294967296 / 65536 % 256), Value.int .u8 (a2 % 4294967296 / 16777216 % 256), Value.int .u8 (a2 / 4294967296 % 256), Value.int .u8 (a2 / 4294967296 % 4294967296 / 256 % 256), Value.int .u8 (a2 / 4294967296 % 4294967296 / 65536 % 256), Value.int .u8 (a2 / 4294967296 % 4294967296 / 16777216 % 256)] : List Value).toArray) Y11 12 (.int .u8 (a2 / 4294967296 % 4294967296 / 16777216 % 256)) rfl
  have hge : w.heap.size ≤ g2 := HG2.out
  refine bodyPost_ret (results_single rfl (Vals.cell g2 55 _ _ _ rfl Y12 Try.underlying55 rfl (by kernel_rfl) .nil)) rfl ⟨rfl, ?_⟩
  exact (below_set (below_set (below_set (below_set (below_set (below_set (below_set (below_set (below_set (below_set (below_set (below_set (below_set BW.out hge) hge) hge) hge) hge) hge) hge) hge) hge) hge) hge) hge) hge)
/-- a block of bytes is read as a row -/
theorem block_reads {w : World} {g t : Nat} {L : List Int} (hm : L.length ≤ 9223372036854775807) (h : w.heap[g]? = some (.cells (L.map (Value.int .u8)).toArray t (0, 0))) :
    Kd.C (Kd.int .u8) w (some ⟨g, 0, none⟩) L.length L := by
  refine Kd.C_of_reads (d := (0 : Int)) ⟨rfl, hm, fun _ => ⟨_, rfl, fun j hj => ?_⟩⟩
  have e := blk_cell h j
  have e2 : (⟨g, 0, none⟩ : Addr).add j = ⟨g, j, none⟩ := by
    by_cases h0 : j = 0
    · subst h0; rfl
    · simp [Addr.add, h0]
  rw [e2, e]
  simp [hj]
def oob_laidL (a0 a1 a2 : Int) : List Int := [a0 % 256, a1 % 256, a1 % 4294967296 / 256 % 256, a1 % 4294967296 / 65536 % 256, a1 % 4294967296 / 16777216 % 256, a2 % 256, a2 % 4294967296 / 256 % 256, a2 % 4294967296 / 65536 % 256, a2 % 4294967296 / 16777216 % 256, a2 / 4294967296 % 256, a2 / 4294967296 % 4294967296 / 256 % 256, a2 / 4294967296 % 4294967296 / 65536 % 256, a2 / 4294967296 % 4294967296 / 16777216 % 256]
def oob_laid.f (a0_0 a0_1 a0_2 : Int) : Option (List Int) := some (oob_laidL a0_0 a0_1 a0_2)

end Go.Proofs.Ytjjohdeknahkmaa.X
