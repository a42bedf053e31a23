/- Three whole numbers in an array, that came in as an argument. -/
import Derived.Test.YthoebkkohdfgeaaX0
import Derived.Test.YthoebkkohdfgeaaRows
import Derived.Deep.Slices
import Derived.WalkKit
import Derived.OpenShut
import Derived.ChangeSlices
import Derived.WideShapes
import Derived.WideKeyArr2
namespace Go.Proofs.Ythoebkkohdfgeaa.X
open Go Go.Deep Go.ChangeShapes Go.WideShapes Go.RowKit Go.Proofs.YthoebkkohdfgeaaW.PrintWords Go.Proofs.YthoebkkohdfgeaaW.PrintMore
theorem arr43 : WideMaps.ArrKey Try.prog 43 3 3 := ⟨Try.underlying43, by kernel_rfl, by kernel_rfl, by kernel_rfl⟩
theorem arr3_value {H : Type} {enc : TypeId × Value → H} {W : World} {v : Value} {d : DataW H} {p : List MemPlace} {r : Reach} {b : Nat} (hv : Value.okWide Try.prog W r b 43 v) (h : DataW.Trod enc Try.prog W 0 (fun _ => true) true 43 v d p) :
    ∃ x0 x1 x2 : Int, v = .agg #[.int .i64 x0, .int .i64 x1, .int .i64 x2] := by
  obtain ⟨xs, rfl, hsz⟩ := WideMaps.okWide_arr arr43 hv
  obtain ⟨fuel, hf⟩ := h
  cases fuel with
  | zero => simp [DataW.trod] at hf
  | succ m =>
    rw [DataW.trod_step] at hf
    unfold DataW.trodStep at hf
    simp only [Try.underlying43, Value.cells] at hf
    rw [if_pos (by rw [arr43.size]; simpa using hsz)] at hf
    simp only [Option.map_eq_some_iff] at hf
    obtain ⟨ys, hy, _⟩ := hf
    have c3 : Try.prog.cellsOf 3 = 1 := arr43.one
    obtain ⟨l, hl⟩ : ∃ l, xs.toList = l := ⟨_, rfl⟩
    have hll : l.length = 3 := by rw [← hl, Array.length_toList, hsz]
    rw [hl, c3] at hy
    match l, hll with
    | [v0, v1, v2], _ =>
      rw [show List.range 3 = [0, 1, 2] from rfl] at hy
      simp only [List.mapM_cons, List.mapM_nil, bind, Option.bind_eq_some_iff, pure, Option.some.injEq] at hy
      obtain ⟨y0, g0, _, ⟨y1, g1, _, ⟨y2, g2, _⟩, _⟩, _⟩ := hy
      simp at g0 g1 g2
      obtain ⟨n0, e0, _, w0⟩ := DataW.trod_int Try.underlying3 g0
      obtain ⟨n1, e1, _, w1⟩ := DataW.trod_int Try.underlying3 g1
      obtain ⟨n2, e2, _, w2⟩ := DataW.trod_int Try.underlying3 g2
      simp only [List.cons.injEq, and_true] at e0 e1 e2
      subst e0 e1 e2
      refine ⟨n0, n1, n2, ?_⟩
      have : xs = xs.toList.toArray := by simp
      rw [this, hl]
end Go.Proofs.Ythoebkkohdfgeaa.X
