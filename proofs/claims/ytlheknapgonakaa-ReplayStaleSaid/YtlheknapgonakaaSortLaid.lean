/- slices.Sort and slices.Compact at []int: the shelf's contracts laid at this program (the tables of numbers), and told of a row of the call's own. -/
import Derived.Shelf.Slices.CompactI
import Derived.Shelf.Slices.In.SortNone
import Derived.Shelf.Sort.Plain
import Derived.Lib.SortBridge
import Derived.Lib.RowBridge
import Derived.Test.YtlheknapgonakaaX0
namespace Go.Proofs
open Go.Shelf
def Try.laysSort_ren : Go.Shelf.Ren := ⟨fun | 189 => 19 | 125 => 27 | 257 => 26 | 128 => 37 | 129 => 38 | 294 => 28 | 295 => 29 | 296 => 30 | 297 => 31 | 298 => 32 | 299 => 33 | 216 => 34 | 300 => 35 | 301 => 36 | 328 => 39 | 329 => 40 | 330 => 41 | 331 => 42 | 332 => 43 | 215 => 44 | 343 => 45 | n => n, fun | 28 => 36 | 3 => 3 | 46 => 54 | 0 => 0 | 51 => 65 | 53 => 67 | 4 => 4 | 183 => 57 | 182 => 56 | 131 => 62 | 5 => 5 | 9 => 9 | 218 => 68 | 222 => 72 | 228 => 75 | 229 => 76 | n => n, fun | n => n⟩
theorem Try.laysSort : Go.Proofs.Lays.n189 Try.prog Try.laysSort_ren := {
  mixed := by kernel_rfl,
  f125 := Try.func27.trans (congrArg some (by kernel_rfl)),
  f128 := Try.func37.trans (congrArg some (by kernel_rfl)),
  f129 := Try.func38.trans (congrArg some (by kernel_rfl)),
  f189 := Try.func19.trans (congrArg some (by kernel_rfl)),
  f215 := Try.func44.trans (congrArg some (by kernel_rfl)),
  f216 := Try.func34.trans (congrArg some (by kernel_rfl)),
  f257 := Try.func26.trans (congrArg some (by kernel_rfl)),
  f294 := Try.func28.trans (congrArg some (by kernel_rfl)),
  f295 := Try.func29.trans (congrArg some (by kernel_rfl)),
  f296 := Try.func30.trans (congrArg some (by kernel_rfl)),
  f297 := Try.func31.trans (congrArg some (by kernel_rfl)),
  f298 := Try.func32.trans (congrArg some (by kernel_rfl)),
  f299 := Try.func33.trans (congrArg some (by kernel_rfl)),
  f300 := Try.func35.trans (congrArg some (by kernel_rfl)),
  f301 := Try.func36.trans (congrArg some (by kernel_rfl)),
  f328 := Try.func39.trans (congrArg some (by kernel_rfl)),
  f329 := Try.func40.trans (congrArg some (by kernel_rfl)),
  f330 := Try.func41.trans (congrArg some (by kernel_rfl)),
  f331 := Try.func42.trans (congrArg some (by kernel_rfl)),
  f332 := Try.func43.trans (congrArg some (by kernel_rfl)),
  f343 := Try.func45.trans (congrArg some (by kernel_rfl)),
  t0 := Try.underlying0,
  a0 := Try.isAgg0,
  z0 := Try.sizeOf0,
  v0 := Try.zeroValue0,
  t3 := Try.underlying3,
  a3 := Try.isAgg3,
  z3 := Try.sizeOf3,
  v3 := Try.zeroValue3,
  t4 := Try.underlying4,
  a4 := Try.isAgg4,
  z4 := Try.sizeOf4,
  v4 := Try.zeroValue4,
  t5 := Try.underlying5,
  a5 := Try.isAgg5,
  z5 := Try.sizeOf5,
  v5 := Try.zeroValue5,
  t9 := Try.underlying9,
  a9 := Try.isAgg9,
  z9 := Try.sizeOf9,
  v9 := Try.zeroValue9,
  t28 := Try.underlying36,
  a28 := Try.isAgg36,
  z28 := Try.sizeOf36,
  v28 := Try.zeroValue36,
  t46 := Try.underlying54,
  a46 := Try.isAgg54,
  z46 := Try.sizeOf54,
  v46 := Try.zeroValue54,
  t51 := Try.underlying65,
  a51 := Try.isAgg65,
  z51 := Try.sizeOf65,
  v51 := Try.zeroValue65,
  t53 := Try.underlying67,
  a53 := Try.isAgg67,
  z53 := Try.sizeOf67,
  v53 := Try.zeroValue67,
  t131 := Try.underlying62,
  a131 := Try.isAgg62,
  z131 := Try.sizeOf62,
  v131 := Try.zeroValue62,
  t182 := Try.underlying56,
  a182 := Try.isAgg56,
  z182 := Try.sizeOf56,
  v182 := Try.zeroValue56,
  t183 := Try.underlying57,
  a183 := Try.isAgg57,
  z183 := Try.sizeOf57,
  v183 := Try.zeroValue57,
  t218 := Try.underlying68,
  a218 := Try.isAgg68,
  z218 := Try.sizeOf68,
  v218 := Try.zeroValue68,
  t222 := Try.underlying72,
  a222 := Try.isAgg72,
  z222 := Try.sizeOf72,
  v222 := Try.zeroValue72,
  t228 := Try.underlying75,
  a228 := Try.isAgg75,
  z228 := Try.sizeOf75,
  v228 := Try.zeroValue75,
  t229 := Try.underlying76,
  a229 := Try.isAgg76,
  z229 := Try.sizeOf76,
  v229 := Try.zeroValue76 }
def Try.laysCompact_ren : Go.Shelf.Ren := ⟨fun | 20 => 20 | n => n, fun | 22 => 36 | 3 => 3 | 4 => 4 | 0 => 0 | n => n, fun | n => n⟩
theorem Try.laysCompact : Go.Proofs.Lays2.n20 Try.prog Try.laysCompact_ren := {
  mixed := by kernel_rfl,
  f20 := Try.func20.trans (congrArg some (by kernel_rfl)),
  t0 := Try.underlying0,
  a0 := Try.isAgg0,
  z0 := Try.sizeOf0,
  v0 := Try.zeroValue0,
  t3 := Try.underlying3,
  a3 := Try.isAgg3,
  z3 := Try.sizeOf3,
  v3 := Try.zeroValue3,
  t4 := Try.underlying4,
  a4 := Try.isAgg4,
  z4 := Try.sizeOf4,
  v4 := Try.zeroValue4,
  t22 := Try.underlying36,
  a22 := Try.isAgg36,
  z22 := Try.sizeOf36,
  v22 := Try.zeroValue36,
  i3 := by kernel_rfl }
end Go.Proofs
namespace Go.Proofs.Ytlheknapgonakaa.X
open Go Go.Sort Go.RowKit Go.Proofs.YtlheknapgonakaaW.PrintWords Go.Proofs.YtlheknapgonakaaW.PrintMore
theorem own_holds {w : World} {base : Nat} {ok : Nat → Prop} {g n cap : Nat} {xs : List Int} (h : Kd.R (Kd.int .i64) 3 w base ok (.slice (some ⟨g, 0, none⟩) n cap) xs) (hp : 0 < xs.length) : Holds (Value.int .i64) w g 0 xs.toArray ∧ g < w.heap.size := by
  obtain ⟨g', cap', hv, hb, hl, cells, hc⟩ := Kd.R_form h hp
  cases hv
  refine ⟨fun j hj => ⟨?_, blk_frozen hc _⟩, hl⟩
  have hj' : j < xs.length := by simpa using hj
  obtain ⟨ad, e, hr⟩ := (Kd.reads_of_C (d := (0 : Int)) (Kd.R_reads' h).2.2).2.2 hp
  cases e
  have := hr j hj'
  have e2 : (Addr.add ⟨g, 0, none⟩ j) = ⟨g, 0 + j, none⟩ := by simp [Addr.add]; exact fun h => h.symm
  rw [e2] at this
  rw [this]
  simp [hj']
theorem own_put {w : World} {base : Nat} {ok : Nat → Prop} {g cap : Nat} {xs : List Int} (h : Kd.R (Kd.int .i64) 3 w base ok (.slice (some ⟨g, 0, none⟩) xs.length cap) xs) (_hp : 0 < xs.length) (ys : List Int) (m : Nat) (hy : ys.length = xs.length) (hm : m ≤ xs.length) (q : Nat) (os : Array Obj) :
    Kd.R (Kd.int .i64) 3 (grow ((w.drewN q).setCells g 0 (ys.map (Value.int .i64))) os) base ok (.slice (some ⟨g, 0, none⟩) m cap) (ys.take m) ∧ ∀ (B : Nat) (W0 : World), Below B W0 w → B ≤ base → Below B W0 (grow ((w.drewN q).setCells g 0 (ys.map (Value.int .i64))) os) := by
  obtain ⟨h0, inner, ⟨hlen, hcase⟩, hrep⟩ := h
  rcases hcase with ⟨hv, _⟩ | ⟨g', cap', cur, hv, hb, hh, hnc, hcm, hcs, htake⟩
  · cases hv
  · cases hv
    have hsz : (Kd.int .i64).sz = 1 := rfl
    rw [hsz] at hcs
    have hh2 : (w.drewN q).heap[g]? = some (.cells cur 3 (0, 0)) := hh
    obtain ⟨cur', h3, h4, h5⟩ := setCells_row (ys.map (Value.int .i64)) 0 (w.drewN q) cur hh2 (by simp; omega)
    obtain ⟨s1, s2, s3, s4⟩ := setCells_same g (ys.map (Value.int .i64)) 0 (w.drewN q)
    have hgl : g < w.heap.size := blk_lt hh
    have hg' : (grow ((w.drewN q).setCells g 0 (ys.map (Value.int .i64))) os).heap[g]? = some (.cells cur' 3 (0, 0)) := by
      unfold grow
      simp only
      rw [Array.getElem?_append_left (by rw [s4]; exact hgl)]
      exact h3
    refine ⟨⟨fun k hk => h0 k (by simpa [Value.ownBlock] using hk), (ys.take m).map (Value.int .i64), ⟨by simp [hsz], .inr ⟨g, cap, cur', ?_, hb, hg', by simp; omega, hcm, by rw [h4, hcs, hsz], ?_⟩⟩, ?_⟩, fun B W0 hB hle => ?_⟩
    · simp; omega
    · rw [h5, hsz]
      simp only [List.take_zero, List.nil_append, List.length_map, Nat.zero_add, Nat.mul_one, List.length_take]
      rw [List.take_append_of_le_length (by simp; omega), ← List.map_take]
      congr 1
      rw [show min m ys.length = m by omega]
    · refine ⟨by simp [hsz], fun j p hj => ?_⟩
      rw [hsz, Nat.mul_one]
      have hlt := (List.getElem?_eq_some_iff.mp hj).1
      have e : (((ys.take m).map (Value.int .i64)).drop j).take 1 = [Value.int .i64 p] := by
        rw [← List.map_drop, ← List.map_take]
        have : ((ys.take m).drop j).take 1 = [p] := by
          rw [List.drop_eq_getElem_cons hlt]
          have := (List.getElem?_eq_some_iff.mp hj).2
          simp [this]
        rw [this]; rfl
      rw [e]
      exact rfl
    · refine ⟨?_, ?_, ?_, ?_, fun k hk => ?_⟩
      · exact s1.trans hB.os
      · exact s2.trans hB.tape
      · exact s3.trans hB.output
      · unfold grow
        simp only [Array.size_append, s4]
        have := hB.size
        show W0.heap.size ≤ w.heap.size + os.size
        omega
      · have hkg : k ≠ g := by omega
        by_cases hk2 : k < w.heap.size
        · unfold grow
          simp only
          rw [Array.getElem?_append_left (by rw [s4]; exact hk2), setCells_far _ 0 k hkg]
          exact hB.block k hk
        · omega
theorem sort_row {w : World} {base : Nat} {ok : Nat → Prop} {v : Value} {xs : List Int} (h : Kd.R (Kd.int .i64) 3 w base ok v xs) (hl : xs.length < 4611686018427387904) :
    Calls Try.prog 19 #[v] w fun e w' => e = .returned (.tuple #[]) ∧ Kd.R (Kd.int .i64) 3 w' base ok v (xs.mergeSort fun x y => decide (x ≤ y)) ∧ ∀ (B : Nat) (W0 : World), Below B W0 w → B ≤ base → Below B W0 w' := by
  by_cases hp : 0 < xs.length
  · obtain ⟨g, cap, hv, hb, hlt, _⟩ := Kd.R_form h hp
    subst hv
    obtain ⟨hH, hg⟩ := own_holds h hp
    refine (Any.slices_Sort_int Try.laysSort g 0 cap xs w hH hg hl).mono fun e w' ⟨he, q, os, hw⟩ => ?_
    have hy : (xs.mergeSort fun x y => decide (x ≤ y)).length = xs.length := by simp
    rw [Lib.sorted_world (Value.int .i64) w g 0 q xs.toArray _ os hH (by simp)] at hw
    obtain ⟨p1, p2⟩ := own_put h hp _ xs.length hy (Nat.le_refl _) q os
    rw [List.take_of_length_le (by omega)] at p1
    subst hw
    exact ⟨he, p1, p2⟩
  · have hx : xs = [] := List.eq_nil_of_length_eq_zero (by omega)
    subst hx
    obtain ⟨A, c, hv⟩ := Kd.R_slice h
    subst hv
    refine (Any.slices_Sort_int_none Try.laysSort A c w).mono fun e w' ⟨he, hw⟩ => ?_
    subst hw
    exact ⟨he, by simpa using h, fun B W0 hB _ => hB⟩
theorem compact_row {w : World} {base : Nat} {ok : Nat → Prop} {v : Value} {xs : List Int} (h : Kd.R (Kd.int .i64) 3 w base ok v xs) :
    Calls Try.prog 20 #[v] w fun e w' => ∃ v', e = .returned v' ∧ Kd.R (Kd.int .i64) 3 w' base ok v' (Lib.compact xs) ∧ ∀ (B : Nat) (W0 : World), Below B W0 w → B ≤ base → Below B W0 w' := by
  by_cases hp : 0 < xs.length
  · obtain ⟨hn, hcap, hC⟩ := Kd.R_reads h |>.choose_spec.choose_spec |>.2 |> fun h => (show True ∧ True ∧ True from ⟨trivial, trivial, trivial⟩)
    obtain ⟨g, cap, hv, hb, hlt, _⟩ := Kd.R_form h hp
    subst hv
    obtain ⟨hH, hg⟩ := own_holds h hp
    have hr := Kd.R_reads' h
    refine (Any.slices_Compact_int Try.laysCompact g 0 cap xs w hH hr.2.2.2.1 hr.2.1).mono fun e w' ⟨he, q, hw⟩ => ?_
    have hcl := Lib.compact_length_le xs
    have hy : (Lib.compact xs ++ List.replicate (xs.length - (Lib.compact xs).length) (0 : Int)).length = xs.length := by simp; omega
    have hw2 : w' = grow (putRow (Value.int .i64) (Sort.ahead w q) g 0 (Lib.compact xs ++ List.replicate (xs.length - (Lib.compact xs).length) 0).toArray) #[] := by rw [hw]; simp
    rw [Lib.sorted_world (Value.int .i64) w g 0 q xs.toArray _ #[] hH (by simpa using hy)] at hw2
    obtain ⟨p1, p2⟩ := own_put h hp _ (Lib.compact xs).length hy hcl q #[]
    rw [List.take_left] at p1
    subst hw2
    exact ⟨_, he, p1, p2⟩
  · have hx : xs = [] := List.eq_nil_of_length_eq_zero (by omega)
    subst hx
    obtain ⟨A, c, hv⟩ := Kd.R_slice h
    subst hv
    refine (Any.slices_Compact_int_empty Try.laysCompact A c w).mono fun e w' ⟨he, hw⟩ => ?_
    subst hw
    exact ⟨_, he, h, fun B W0 hB _ => hB⟩
end Go.Proofs.Ytlheknapgonakaa.X
