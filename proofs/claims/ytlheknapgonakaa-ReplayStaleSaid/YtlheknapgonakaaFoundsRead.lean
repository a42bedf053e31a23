/- What was found (an address, three whole numbers, a slice of bytes told as it is), that came in as an argument: one by its value, or a slice of them as a row that is read. -/
import Derived.Test.YtlheknapgonakaaX0
import Derived.Test.YtlheknapgonakaaRows
import Derived.Deep.Slices
import Derived.WalkKit
import Derived.OpenShut
import Derived.ChangeSlices
import Derived.WideShapes
namespace Go.Proofs.Ytlheknapgonakaa.X
open Go Go.Deep Go.ChangeShapes Go.WideShapes Go.RowKit Go.Proofs.YtlheknapgonakaaW.PrintWords Go.Proofs.YtlheknapgonakaaW.PrintMore
def foundOk (s : S27) : Prop := (Lit.int .i64 s.f0).wf = true ∧ (Lit.int .i64 s.f1.f0).wf = true ∧ (Lit.int .i64 s.f1.f1).wf = true ∧ (Lit.int .i64 s.f1.f2).wf = true
instance : Inhabited S27 := ⟨z27⟩
theorem c27 : Try.prog.cellsOf 27 = 5 := by kernel_rfl
theorem c24 : Try.prog.cellsOf 24 = 3 := by kernel_rfl
theorem c3 : Try.prog.cellsOf 3 = 1 := by kernel_rfl
theorem c25 : Try.prog.cellsOf 25 = 1 := by kernel_rfl
theorem c5 : Try.prog.cellsOf 5 = 1 := by kernel_rfl
section
variable {H : Type} {enc : TypeId × Value → H} {W : World}
theorem found_open {n : Nat} {cs : List Value} {x : DataW H × List MemPlace} (hl : cs.length = 5) (h : DataW.trod enc Try.prog W 0 (fun _ => true) true n 27 cs = some x) :
    ∃ s : S27, cs = [.int .i64 s.f0, .int .i64 s.f1.f0, .int .i64 s.f1.f1, .int .i64 s.f1.f2, .slice s.f2.a s.f2.n s.f2.c] ∧ foundOk s := by
  obtain ⟨xs, k, hk, hxy, _, hxl, hf⟩ := DataW.trod_struct Try.underlying27 h
  match xs, hxl, cs, hl with
  | [y0, y1, y2], _, [v0, v1, v2, v3, v4], _ =>
    have g0 := hf 0 _ rfl
    have g1 := hf 1 _ rfl
    have g2 := hf 2 _ rfl
    simp [c3, c24, c25] at g0 g1 g2
    obtain ⟨n0, e0, _, w0⟩ := DataW.trod_int Try.underlying3 g0
    simp only [List.cons.injEq, and_true] at e0
    subst e0
    obtain ⟨ys, k2, hk2, hxy2, _, hyl, hf2⟩ := DataW.trod_struct Try.underlying24 g1
    match ys, hyl with
    | [z0, z1, z2], _ =>
      have k0 := hf2 0 _ rfl
      have k1 := hf2 1 _ rfl
      have k2 := hf2 2 _ rfl
      simp [c3] at k0 k1 k2
      obtain ⟨n1, e1, _, w1⟩ := DataW.trod_int Try.underlying3 k0
      obtain ⟨n2, e2, _, w2⟩ := DataW.trod_int Try.underlying3 k1
      obtain ⟨n3, e3, _, w3⟩ := DataW.trod_int Try.underlying3 k2
      simp only [List.cons.injEq, and_true] at e1 e2 e3
      subst e1 e2 e3
      rcases open_ints Try.underlying25 Try.underlying5 c5 g2 with ⟨hcs, _⟩ | ⟨a', len', cap', zs, hcs, _⟩
      · simp only [List.cons.injEq, and_true] at hcs
        subst hcs
        exact ⟨⟨n0, ⟨n1, n2, n3⟩, ⟨none, 0, 0⟩⟩, rfl, w0, w1, w2, w3⟩
      · simp only [List.cons.injEq, and_true] at hcs
        subst hcs
        exact ⟨⟨n0, ⟨n1, n2, n3⟩, ⟨some a', len', cap'⟩⟩, rfl, w0, w1, w2, w3⟩
theorem found_value {v : Value} {d : DataW H} {p : List MemPlace} {r : Reach} {b : Nat} (hv : Value.okWide Try.prog W r b 27 v) (h : DataW.Trod enc Try.prog W 0 (fun _ => true) true 27 v d p) :
    ∃ s : S27, v = .agg #[.int .i64 s.f0, .int .i64 s.f1.f0, .int .i64 s.f1.f1, .int .i64 s.f1.f2, .slice s.f2.a s.f2.n s.f2.c] ∧ foundOk s := by
  obtain ⟨cs, rfl, hsz⟩ := okWide_struct Try.underlying27 hv
  obtain ⟨fuel, hf⟩ := h
  obtain ⟨s, hs, ho⟩ := found_open (cs := cs.toList) (by rw [Array.length_toList, hsz, c27]) (by simpa [Value.cells] using hf)
  refine ⟨s, ?_, ho⟩
  have : cs = cs.toList.toArray := by simp
  rw [this, hs]
theorem founds_open {fuel : Nat} {a : Option Addr} {len cap : Nat} {x : DataW H × List MemPlace} (h : DataW.trod enc Try.prog W 0 (fun _ => true) true fuel 22 [.slice a len cap] = some x) :
    ∃ l : List S27, l.length = len ∧ l.length ≤ cap ∧ Kd.C k27 W a l.length l ∧ l.length ≤ maxLen ∧ ∀ s ∈ l, foundOk s := by
  rcases open_slice Try.underlying22 h with ⟨hcs, _⟩ | ⟨b, len', cap', m, n, D, Pl, hcs, _, hl, hm, hmm, _, hx⟩
  · simp only [List.cons.injEq, and_true, Value.slice.injEq] at hcs
    obtain ⟨rfl, rfl, rfl⟩ := hcs
    exact ⟨[], rfl, Nat.le_refl _, Kd.C_nil _ _, by simp, by simp⟩
  · simp only [List.cons.injEq, and_true, Value.slice.injEq] at hcs
    obtain ⟨rfl, rfl, rfl⟩ := hcs
    simp only [if_true] at hmm
    obtain ⟨S, hS⟩ := choose_lt (α := S27) (n := len) (p := fun i q => W.cells? 0 (b.add (i * 5)) 5 = some [.int .i64 q.f0, .int .i64 q.f1.f0, .int .i64 q.f1.f1, .int .i64 q.f1.f2, .slice q.f2.a q.f2.n q.f2.c] ∧ foundOk q) (fun i hi => by
      obtain ⟨cs', h1, h2⟩ := hx i (by omega)
      rw [c27] at h1
      obtain ⟨_, hlen, _⟩ := World.cells?_some h1
      obtain ⟨s, rfl, q3⟩ := found_open hlen h2
      exact ⟨s, h1, q3⟩)
    have hlen : ((List.range len).map fun i => S i).length = len := by simp
    refine ⟨(List.range len).map fun i => S i, hlen, by rw [hlen]; exact hl, ?_, by rw [hlen]; omega, fun s hs => ?_⟩
    · rw [hlen]
      refine ⟨by simp, by unfold maxLen at hm; omega, fun _ => ⟨b, rfl, fun j p hj => ?_⟩⟩
      obtain ⟨hlt, hp⟩ := List.getElem?_eq_some_iff.mp hj
      simp only [List.length_map, List.length_range] at hlt
      simp only [List.getElem_map, List.getElem_range] at hp
      subst hp
      obtain ⟨q0, q3⟩ := hS j hlt
      obtain ⟨_, _, hcell⟩ := World.cells?_some q0
      refine ⟨_, rfl, k27_mk W (S j), fun i u hi => ?_⟩
      have hi5 : i < 5 := by
        have := (List.getElem?_eq_some_iff.mp hi).1
        simpa using this
      have := hcell i hi5
      rw [Deep.add_add] at this
      show W.cell? (b.add (j * 5 + i)) = some u
      rw [this, hi]
    · obtain ⟨r, hr, rfl⟩ := List.mem_map.1 hs
      exact (hS r (List.mem_range.1 hr)).2
end
end Go.Proofs.Ytlheknapgonakaa.X
