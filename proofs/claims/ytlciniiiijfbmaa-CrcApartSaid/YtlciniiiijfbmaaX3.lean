-- laid by wip/tools/xprint.py (our own changes over the printer)
import Derived.Test.YtlciniiiijfbmaaX0
import Derived.Test.YtlciniiiijfbmaaX2
namespace Go.Proofs.Ytlciniiiijfbmaa.X
open Go.RowKit Go.Proofs.YtlciniiiijfbmaaW.PrintWords Go.Proofs.YtlciniiiijfbmaaW.PrintLast Go.Proofs.YtlciniiiijfbmaaW.PrintMore
attribute [local go_sem] max2_int min2_int max_two min_two max_three min_three max_four min_four   -- for this text's walks alone
set_option linter.unusedVariables false
set_option linter.unusedSimpArgs false

/-! ### strakelaw01_awake: function 10 -/
def strakelaw01_awake.f (k : Nat)  : Option (Bool) := (crc_Sum.f k (([49, 50, 51, 52, 53, 54, 55, 56, 57] : List Int))).bind fun t106 => (some (t106 == 3421780262))
theorem strakelaw01_awake.mono : ∀ k, LeO (strakelaw01_awake.f k ) (strakelaw01_awake.f (k + 1) ) := by
  intro  k
  unfold strakelaw01_awake.f
  repeat' first
      | (with_reducible exact crc_Sum.mono _ _)
      | (with_reducible exact LeO.refl _)
      | (with_reducible exact LeO.none _)
      | (with_reducible refine LeO.ite ?_ ?_)
      | (with_reducible refine LeO.bind ?_ (fun _ => ?_))
      | exact crc_Sum.mono _ _
      | exact LeO.none _
      | refine LeO.ite ?_ ?_
      | refine LeO.bind ?_ (fun _ => ?_)
theorem C_lit (W : World) (C : Array Value) (e : TypeId) (fz : Nat × Nat) (l : List Int) (hC : C.toList = l.map (Value.int .u8)) (hl : l.length ≤ 9223372036854775807) :
    Kd.C (Kd.int .u8) (W.alloc (.cells C e fz)) (some ⟨W.heap.size, 0, none⟩) l.length l := by
  refine ⟨rfl, hl, fun _ => ⟨_, rfl, fun j p hj => ⟨[.int .u8 p], rfl, rfl, fun i u hi => ?_⟩⟩⟩
  match i, hi with
  | 0, hi =>
    obtain rfl : Value.int .u8 p = u := by simpa using hi
    have hlt : j < l.length := (List.getElem?_eq_some_iff.1 hj).1
    have hg : C[j]? = some (.int .u8 p) := by
      rw [← Array.getElem?_toList, hC, List.getElem?_map, hj]; rfl
    have ha : (⟨W.heap.size, 0, none⟩ : Addr).add (j * (Kd.int .u8).sz + 0) = ⟨W.heap.size, j, none⟩ := by
      show (⟨W.heap.size, 0, none⟩ : Addr).add (j * 1 + 0) = _
      unfold Addr.add; split <;> simp_all
    rw [ha]
    rw [World.cell?_alloc_mark, hg]
  | i + 1, hi => simp at hi
set_option maxHeartbeats 8000000 in
set_option maxRecDepth 100000 in
theorem strakelaw01_awake.calls (k : Nat)  (r : Bool) (w : World) (h : strakelaw01_awake.f k  = some r) :
    Calls Try.prog 10 #[] w fun e w' => e = .returned (.bool r) ∧ Below w.heap.size w w' := by
  have kc := fun (w : World) (C : Array Value) (n c : Nat) => Lib.run_convert_bytes_const (P := Try.prog) w 22 5 C n c Try.underlying22 Try.underlying5
  obtain ⟨t106, A1, H⟩ := Option.bind_eq_some_iff.mp h
  obtain rfl := Option.some.inj H
  clear h H
  have A2 := Aside0.mk A1
  clear A1
  go_enter Try.func10, Try.ntmps10
  go_wp2_with (go_at_call 11; (refine (crc_Sum.calls k _ _ [49, 50, 51, 52, 53, 54, 55, 56, 57] t106 _ ?s1 ?s2 A2.out).mono ?_); (case s1 => exact C_lit w _ _ _ [49, 50, 51, 52, 53, 54, 55, 56, 57] rfl (by decide)); (case s2 => decide); rintro e w' ⟨rfl, ⟨nd, rfl⟩⟩)
  go_ret
  exact ⟨rfl, pw_below_drewN (below_alloc (Below.refl _ _) _) _⟩

end Go.Proofs.Ytlciniiiijfbmaa.X
