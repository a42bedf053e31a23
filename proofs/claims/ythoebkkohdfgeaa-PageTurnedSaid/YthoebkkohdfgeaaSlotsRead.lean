/- A slice of structs (three whole numbers, a slice of bytes, a whole number) that came in as an argument, as a row that is read. -/
import Derived.Test.YthoebkkohdfgeaaX0
import Derived.Test.YthoebkkohdfgeaaRows
import Derived.Deep.Slices
import Derived.WalkKit
import Derived.OpenShut
import Derived.ChangeSlices
import Derived.Test.YthoebkkohdfgeaaRowsRead
namespace Go.Proofs.Ythoebkkohdfgeaa.X
open Go Go.Deep Go.ChangeShapes Go.WideShapes Go.RowKit Go.Proofs.YthoebkkohdfgeaaW.PrintWords Go.Proofs.YthoebkkohdfgeaaW.PrintMore Go.Proofs.Ythoebkkohdfgeaa.Plain
def slotOk (s : S38) : Prop := (Lit.int .i64 s.f0).wf = true ∧ (Lit.int .i64 s.f1).wf = true ∧ (Lit.int .i64 s.f2).wf = true ∧ s.f3.length ≤ maxLen ∧ (∀ x ∈ s.f3, (Lit.int .u8 x).wf = true) ∧ (Lit.int .i64 s.f4).wf = true
instance : Inhabited S38 := ⟨z38⟩
theorem c38 : Try.prog.cellsOf 38 = 5 := by kernel_rfl
theorem c3 : Try.prog.cellsOf 3 = 1 := by kernel_rfl
theorem c36 : Try.prog.cellsOf 36 = 1 := by kernel_rfl
theorem c5 : Try.prog.cellsOf 5 = 1 := by kernel_rfl
section
variable {H : Type} {enc : TypeId × Value → H} {W : World}
theorem slot_open {n : Nat} {cs : List Value} {x : DataW H × List MemPlace} (hl : cs.length = 5) (h : DataW.trod enc Try.prog W 0 (fun _ => true) true n 38 cs = some x) :
    ∃ (s : S38) (A : Option Addr) (C : Nat), cs = [.int .i64 s.f0, .int .i64 s.f1, .int .i64 s.f2, .slice A s.f3.length C, .int .i64 s.f4] ∧ s.f3.length ≤ C ∧ (Kd.int .u8).C W A s.f3.length s.f3 ∧ slotOk s := by
  obtain ⟨xs, k, hk, hxy, _, hxl, hf⟩ := DataW.trod_struct Try.underlying38 h
  match xs, hxl, cs, hl with
  | [y0, y1, y2, y3, y4], _, [v0, v1, v2, v3, v4], _ =>
    have g0 := hf 0 _ rfl
    have g1 := hf 1 _ rfl
    have g2 := hf 2 _ rfl
    have g3 := hf 3 _ rfl
    have g4 := hf 4 _ rfl
    simp [c3, c36] at g0 g1 g2 g3 g4
    obtain ⟨n0, e0, _, w0⟩ := DataW.trod_int Try.underlying3 g0
    obtain ⟨n1, e1, _, w1⟩ := DataW.trod_int Try.underlying3 g1
    obtain ⟨n2, e2, _, w2⟩ := DataW.trod_int Try.underlying3 g2
    obtain ⟨n4, e4, _, w4⟩ := DataW.trod_int Try.underlying3 g4
    simp only [List.cons.injEq, and_true] at e0 e1 e2 e4
    subst e0 e1 e2 e4
    rcases open_ints Try.underlying36 Try.underlying5 c5 g3 with ⟨hcs, _⟩ | ⟨a', len', cap', zs, hcs, hb', hl', hm', hz, hy, hcell, hwz⟩
    · simp only [List.cons.injEq, and_true] at hcs
      subst hcs
      exact ⟨⟨n0, n1, n2, [], n4⟩, none, 0, rfl, Nat.le_refl _, Kd.C_nil _ _, w0, w1, w2, by simp, by simp, w4⟩
    · simp only [List.cons.injEq, and_true] at hcs
      subst hcs
      simp only [if_true] at hz
      have ht : (zs.take len').length = len' := by rw [List.length_take]; omega
      refine ⟨⟨n0, n1, n2, zs.take len', n4⟩, some a', cap', ?_, ?_, ?_, w0, w1, w2, ?_, fun x hx => hwz x (List.mem_of_mem_take hx), w4⟩
      · show [Value.int .i64 n0, .int .i64 n1, .int .i64 n2, .slice (some a') len' cap', .int .i64 n4] = [.int .i64 n0, .int .i64 n1, .int .i64 n2, .slice (some a') (zs.take len').length cap', .int .i64 n4]
        rw [ht]
      · show (zs.take len').length ≤ cap'
        omega
      · show (Kd.int .u8).C W (some a') (zs.take len').length (zs.take len')
        rw [ht]
        exact one_read hl' hm' hz (fun e => by cases e) (fun a e c hc => by cases e; exact hcell c (by omega))
      · show (zs.take len').length ≤ maxLen
        omega
theorem slots_open {fuel : Nat} {a : Option Addr} {len cap : Nat} {x : DataW H × List MemPlace} (h : DataW.trod enc Try.prog W 0 (fun _ => true) true fuel 22 [.slice a len cap] = some x) :
    ∃ l : List S38, l.length = len ∧ l.length ≤ cap ∧ Kd.C k38 W a l.length l ∧ l.length ≤ maxLen ∧ ∀ s ∈ l, slotOk s := by
  rcases open_slice Try.underlying22 h with ⟨hcs, _⟩ | ⟨b, len', cap', m, n, D, Pl, hcs, _, hl, hm, hmm, _, hx⟩
  · simp only [List.cons.injEq, and_true, Value.slice.injEq] at hcs
    obtain ⟨rfl, rfl, rfl⟩ := hcs
    exact ⟨[], rfl, Nat.le_refl _, Kd.C_nil _ _, by simp, by simp⟩
  · simp only [List.cons.injEq, and_true, Value.slice.injEq] at hcs
    obtain ⟨rfl, rfl, rfl⟩ := hcs
    simp only [if_true] at hmm
    obtain ⟨S, hS⟩ := choose_lt (α := S38 × Option Addr × Nat) (n := len) (p := fun i q => W.cells? 0 (b.add (i * 5)) 5 = some [.int .i64 q.1.f0, .int .i64 q.1.f1, .int .i64 q.1.f2, .slice q.2.1 q.1.f3.length q.2.2, .int .i64 q.1.f4] ∧ q.1.f3.length ≤ q.2.2 ∧ (Kd.int .u8).C W q.2.1 q.1.f3.length q.1.f3 ∧ slotOk q.1) (fun i hi => by
      obtain ⟨cs', h1, h2⟩ := hx i (by omega)
      rw [c38] at h1
      obtain ⟨_, hlen, _⟩ := World.cells?_some h1
      obtain ⟨s, A, C, rfl, q1, q2, q3⟩ := slot_open hlen h2
      exact ⟨(s, A, C), h1, q1, q2, q3⟩)
    have hlen : ((List.range len).map fun i => (S i).1).length = len := by simp
    refine ⟨(List.range len).map fun i => (S i).1, hlen, by rw [hlen]; exact hl, ?_, by rw [hlen]; omega, fun s hs => ?_⟩
    · rw [hlen]
      refine ⟨by simp, by unfold maxLen at hm; omega, fun _ => ⟨b, rfl, fun j p hj => ?_⟩⟩
      obtain ⟨hlt, hp⟩ := List.getElem?_eq_some_iff.mp hj
      simp only [List.length_map, List.length_range] at hlt
      simp only [List.getElem_map, List.getElem_range] at hp
      subst hp
      obtain ⟨q0, q1, q2, q3⟩ := hS j hlt
      obtain ⟨_, _, hcell⟩ := World.cells?_some q0
      refine ⟨_, rfl, k38_mk W (S j).1 q1 q2, fun i u hi => ?_⟩
      have hi5 : i < 5 := by
        have := (List.getElem?_eq_some_iff.mp hi).1
        simpa using this
      have := hcell i hi5
      rw [Deep.add_add] at this
      show W.cell? (b.add (j * 5 + i)) = some u
      rw [this, hi]
    · obtain ⟨r, hr, rfl⟩ := List.mem_map.1 hs
      exact (hS r (List.mem_range.1 hr)).2.2.2
end
end Go.Proofs.Ythoebkkohdfgeaa.X
