-- laid by wip/tools/xprint.py (our own changes over the printer)
import Derived.Test.YtjjohdeknahkmaaRows
import Derived.Test.YtjjohdeknahkmaaX37
import Derived.Test.YtjjohdeknahkmaaPureMarkTurned
import Derived.WalkKit
import Derived.ProofKit
import Derived.OpenShut
import Derived.ShutString
import Derived.ChangeOld
import Derived.Below
import Derived.SizedLaws
import Derived.Lib.SmallJoins
import Derived.Test.YtjjohdeknahkmaaWSized
namespace Go.Proofs.Ytjjohdeknahkmaa.markTurned
open Go.ChangeShapes Go.WideShapes Go.ChangeAt Go.RowKit
open Go.ChangeMaps (open_string shut_string)
set_option linter.unusedVariables false
theorem own : ownKnob Try.prog.godebug = none := by kernel_rfl
theorem laidOut : laidOutB Try.prog = true := by kernel_rfl
def IsRow (k : IntKind) (w : World) (a : Option Addr) (len cap : Nat) (zs : List Int) : Prop :=
  (a = none ∧ len = 0 ∧ cap = 0 ∧ zs = []) ∨
  ∃ x, a = some x ∧ len ≤ cap ∧ cap ≤ maxLen ∧ zs.length = cap ∧ (∀ i, i < zs.length → w.cell? (x.add i) = some (.int k (zs.getD i 0))) ∧ ∀ n ∈ zs, (Lit.int k n).wf = true
theorem Value.okWide_array {P : Program} {w : World} {r : Reach} {base : Nat} {t : TypeId} {v : Value} {n : Nat} {e : TypeId} (ht : P.underlying t = some (.array n e)) (h : Value.okWide P w r base t v) : ∃ cs, v = .agg cs ∧ cs.size = P.cellsOf t := by
  cases v <;> simp_all [Value.okWide, Value.formed]
theorem arr2 {cs : Array Value} (h : cs.size = 2) : ∃ c0 c1, cs = #[c0, c1] := by
  obtain ⟨l⟩ := cs
  match l, h with
  | [c0, c1], _ => exact ⟨c0, c1, rfl⟩
theorem arr3 {cs : Array Value} (h : cs.size = 3) : ∃ c0 c1 c2, cs = #[c0, c1, c2] := by
  obtain ⟨l⟩ := cs
  match l, h with
  | [c0, c1, c2], _ => exact ⟨c0, c1, c2, rfl⟩
set_option maxRecDepth 100000 in
theorem lifted (os : Os) (started : os.Started) (H : Type) (enc : TypeId × Value → H) :
    ReturnsInHanded {} Try.checked os 10 .any (Rows.markTurnedSpec.pre6 enc Try.prog Try.f10 Rows.markTurnedRow.domain false) (Rows.markTurnedSpec.post enc Try.prog Try.f10 false true false false) := by
  refine returnsInHanded_of_change_sized (C := Try.checked) own started (by kernel_rfl) Try.func10
    (ChangeSpec.witness6 (enc := enc) (C := Try.checked) false ⟨#[], #[.agg #[.int .i64 0, .int .i64 0, .int .i64 0], .agg #[.int .i64 0, .int .i64 0]], []⟩ 8 (by kernel_rfl) (by kernel_rfl) (by kernel_rfl) (by kernel_rfl)) ?_
  intro W base args ds gs before hval0 hW hcnd hsz0 _
  have hsz : (DataW.weightsEach Try.prog (Try.f10.params.toList ++ Rows.markTurnedSpec.plain.varTypes Try.prog) (ds ++ gs)).all (· ≤ reachBytes) = true := hsz0
  have hval : ∀ (j : Nat) t v, Try.f10.params[j]? = some t → args[j]? = some v → Value.okWide Try.prog W .any base t v := hval0
  have hW' := hW
  obtain ⟨p, q, hA0, hV, rfl, hfz, hnd⟩ := hW
  have hA : DataW.TrodAll enc Try.prog W 0 (fun _ => true) true Try.f10.params.toList args.toList ds p := hA0
  rw [Try.params10] at hA hval hsz
  obtain ⟨v0, vs0, d0, ds0, p0, q0, hargs, rfl, rfl, h0, r0⟩ := trodAll_cons hA
  obtain ⟨v1, vs1, d1, ds1, p1, q1, rfl, rfl, rfl, h1, r1⟩ := trodAll_cons r0
  obtain ⟨rfl, rfl, rfl⟩ := trodAll_nil r1
  obtain rfl : args = #[v0, v1] := by cases args; simp_all
  obtain ⟨rfl, rfl⟩ := trodVars_none hV
  have k0 := h0
  have lt0 : ∀ x ∈ p0, x.block < W.heap.size := by obtain ⟨m, hm⟩ := k0; exact DataW.trod_lt m _ _ _ hm
  obtain ⟨c0_0, c0_1, c0_2, y0_0, y0_1, y0_2, m0, rfl, rfl, rfl, e0_0, e0_1, e0_2⟩ := Joins.open_agg3 Try.underlying23 (by kernel_rfl) (show Try.prog.cellsOf 23 = 3 from by kernel_rfl) (hval 0 23 v0 rfl rfl) h0
  obtain ⟨a0_0, z0_0, _, w0_0⟩ := DataW.trod_int Try.underlying3 e0_0
  obtain rfl : c0_0 = .int .i64 a0_0 := by simpa using z0_0
  obtain ⟨a0_1, z0_1, _, w0_1⟩ := DataW.trod_int Try.underlying3 e0_1
  obtain rfl : c0_1 = .int .i64 a0_1 := by simpa using z0_1
  obtain ⟨a0_2, z0_2, _, w0_2⟩ := DataW.trod_int Try.underlying3 e0_2
  obtain rfl : c0_2 = .int .i64 a0_2 := by simpa using z0_2
  have k1 := h1
  have lt1 : ∀ x ∈ p1, x.block < W.heap.size := by obtain ⟨m, hm⟩ := k1; exact DataW.trod_lt m _ _ _ hm
  obtain ⟨fu1, f1⟩ := h1
  obtain ⟨cs1, rfl, hz1⟩ := Value.okWide_array (n := 2) (e := 3) Try.underlying45 (hval 1 45 v1 rfl rfl)
  obtain ⟨xs1, m1, _, _, hl1, hn1, hx1⟩ := DataW.trod_array Try.underlying45 f1
  obtain ⟨c1_0, c1_1, rfl⟩ := arr2 (hz1.trans (show Try.prog.cellsOf 45 = 2 from by kernel_rfl))
  have e1_0 := hx1 0 (by decide)
  rw [show Try.prog.cellsOf 3 = 1 from by kernel_rfl, List.getElem?_eq_getElem (by omega)] at e1_0
  obtain ⟨a1_0, z1_0, _, w1_0⟩ := DataW.trod_int Try.underlying3 e1_0
  obtain rfl : c1_0 = .int .i64 a1_0 := by simpa [Value.cells] using z1_0
  have e1_1 := hx1 1 (by decide)
  rw [show Try.prog.cellsOf 3 = 1 from by kernel_rfl, List.getElem?_eq_getElem (by omega)] at e1_1
  obtain ⟨a1_1, z1_1, _, w1_1⟩ := DataW.trod_int Try.underlying3 e1_1
  obtain rfl : c1_1 = .int .i64 a1_1 := by simpa [Value.cells] using z1_1
  clear hA0 hval0 hsz0 hsz
  refine (X.strakelaw06_MarkTurned.walk Pure.MarkTurned a0_0 a0_1 a0_2 a1_0 a1_1 W w0_0 w0_1 w0_2 w1_0 w1_1).mono fun e W' ⟨he, bel⟩ => ?_
  subst he
  exact ⟨_, rfl, _, _, _, [], _, [], hW', trodAll_mk1 (shut_bool Try.underlying4 _), (trodAll_cons_mk (Below.trod laidOut (by kernel_rfl) (of_decide_eq_true (by kernel_rfl)) k0 bel lt0) (trodAll_cons_mk (Below.trod laidOut (by kernel_rfl) (of_decide_eq_true (by kernel_rfl)) k1 bel lt1) trodAll_mk0)), rfl, bel.frame _, fun h => by cases h⟩
theorem over : Rows.markTurnedRow.holds Try.pinned (OpenSpec.ofChange Rows.markTurnedSpec) :=
  OpenClaim.holds_of_wide 10 Try.f10 rfl rfl rfl rfl rfl rfl rfl ⟨rfl, rfl, rfl, rfl, rfl⟩ rfl rfl rfl rfl rfl (by kernel_rfl) Try.func10 (by kernel_rfl)
    (of_decide_eq_true (by kernel_rfl)) (by unfold Func.isWrapper; first | (rw [if_pos (by decide +kernel)]; kernel_rfl) | (rw [if_neg (by decide +kernel)]; exact ⟨rfl, rfl⟩))
    (fun os started H enc _ => lifted os started H enc)
theorem proved : Rows.MarkTurnedSaid := over
#print axioms proved
end Go.Proofs.Ytjjohdeknahkmaa.markTurned
namespace Go.Proofs.Ytjjohdeknahkmaa
/-- The row, under a short name, for the claim. -/
theorem markTurned_holds : Rows.MarkTurnedSaid := markTurned.proved
end Go.Proofs.Ytjjohdeknahkmaa
