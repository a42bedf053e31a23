/- A map keyed by int that the call made, seen as a function from keys to values; its operations at the walk. -/
import Derived.Maps.OwnSet
import Derived.Maps.RangeWalk
import Derived.Maps.Views
import Derived.Below
import Derived.WalkKit
namespace Go.Proofs.Ytlheknapgonakaa.Plain
open Go Go.Maps Go.RowKit Go.ChangeMaps Go.MapKept
open Go.WideElems (Fit rd rg pl rd_val rd_key rg_of)
/-- every value reads as itself -/
def asHeld (v : Value) : Option (DataW Value × List MemPlace) := some (.held v, [])
/-- block B of w is a map of at most n entries that holds what f says -/
def mapF (w : World) (P : Program) (k : TypeId) (B n : Nat) (f : Int → Option Value) : Prop :=
  ∃ D, w.ownsMap P k asHeld B n D ∧ ∀ x, (Lit.int .i64 x).wf = true → Maps.has D (.int .i64 x) = (f x).isSome ∧ ∀ v, f x = some v → ∀ z, D.atKey (.int .i64 x) z = .held v
/-- .. under way: 'left' are the keys still to come, cnt how many -/
def mapR (w : World) (P : Program) (k : TypeId) (B r n : Nat) (f : Int → Option Value) (left : Int → Prop) (cnt : Nat) : Prop :=
  ∃ D l, w.ranges P k asHeld B r n D l cnt ∧ (∀ x, (Lit.int .i64 x).wf = true → Maps.has D (.int .i64 x) = (f x).isSome ∧ ∀ v, f x = some v → ∀ z, D.atKey (.int .i64 x) z = .held v) ∧ ∀ x, (Lit.int .i64 x).wf = true → (l (.int .i64 x) = true ↔ left x)
theorem mapF_made (w : World) (P : Program) (k : TypeId) : mapF (w.alloc (.map #[] 0)) P k w.heap.size 0 (fun _ => none) :=
  ⟨_, World.ownsMap_made w P k asHeld, fun x _ => ⟨rfl, fun v h => by cases h⟩⟩
theorem mapF.kept {w w' : World} {P : Program} {k : TypeId} {B n : Nat} {f : Int → Option Value} {row : Option Nat} (h : mapF w P k B n f) (hg : w.grownBy w' row) (hne : some B ≠ row) : mapF w' P k B n f := by
  obtain ⟨D, h1, h2⟩ := h
  exact ⟨D, h1.kept hg hne, h2⟩
theorem mapF.lt {w : World} {P : Program} {k : TypeId} {B n : Nat} {f : Int → Option Value} (h : mapF w P k B n f) : B < w.heap.size := by
  obtain ⟨D, h1, _⟩ := h
  exact h1.lt
theorem mapF.mono {w : World} {P : Program} {k : TypeId} {B n n' : Nat} {f : Int → Option Value} (h : mapF w P k B n f) (hn : n ≤ n') : mapF w P k B n' f := by
  obtain ⟨D, h1, h2⟩ := h
  exact ⟨D, h1.mono hn, h2⟩
theorem mapF.below {w w' : World} {P : Program} {k : TypeId} {B n : Nat} {f : Int → Option Value} (h : mapF w P k B n f) (hb : Below w.heap.size w w') : mapF w' P k B n f := by
  obtain ⟨D, ⟨es, clock, hh, r⟩, h2⟩ := h
  have hlt := (Array.getElem?_eq_some_iff.1 hh).1
  exact ⟨D, ⟨es, clock, (hb.block B hlt).trans hh, r⟩, h2⟩
theorem mapR.below {w w' : World} {P : Program} {k : TypeId} {B r n : Nat} {f : Int → Option Value} {left : Int → Prop} {cnt : Nat} (h : mapR w P k B r n f left cnt) (hb : Below w.heap.size w w') : mapR w' P k B r n f left cnt := by
  obtain ⟨D, l, ⟨es, clock, since, seen, c0, h1, F, hs, hD, hr, q⟩, h2⟩ := h
  have hlt := (Array.getElem?_eq_some_iff.1 h1).1
  have hlr := (Array.getElem?_eq_some_iff.1 hr).1
  exact ⟨D, l, ⟨es, clock, since, seen, c0, (hb.block B hlt).trans h1, F, hs, hD, (hb.block r hlr).trans hr, q⟩, h2⟩
theorem mapR.lt {w : World} {P : Program} {k : TypeId} {B r n : Nat} {f : Int → Option Value} {left : Int → Prop} {cnt : Nat} (h : mapR w P k B r n f left cnt) : r < w.heap.size := by
  obtain ⟨D, l, h1, _⟩ := h
  exact h1.lt
theorem mapR.left_eq {w : World} {P : Program} {k : TypeId} {B r n : Nat} {f : Int → Option Value} {left : Int → Prop} {cnt : Nat} (h : mapR w P k B r n f left cnt) : w.rangeLeft B r = cnt := by
  obtain ⟨D, l, h1, _⟩ := h
  exact h1.left_eq

theorem mapF.setCell {w : World} {P : Program} {k : TypeId} {B n : Nat} {f : Int → Option Value} (h : mapF w P k B n f) {p : Addr} (hne : B ≠ p.block) (u : Value) : mapF (w.setCell p u) P k B n f := by
  obtain ⟨D, h1, h2⟩ := h
  exact ⟨D, h1.setCell hne u, h2⟩
theorem mapF.alloc {w : World} {P : Program} {k : TypeId} {B n : Nat} {f : Int → Option Value} (h : mapF w P k B n f) (o : Obj) : mapF (w.alloc o) P k B n f := by
  obtain ⟨D, h1, h2⟩ := h
  exact ⟨D, h1.alloc o, h2⟩
section
variable {P : Program} (w : World) {ops : Array Oper} {rest : List Oper} {o : Oper} {a : Act} {Q : Exit → Act → World → Prop}
theorem mapF_put (hg : o.guard = none) (m x v : Operand) (t : TypeId) (hop : o.op = Op.mapUpdate t m x v) (k e : TypeId) (hk : P.underlying k = some (.int .i64)) (ht : P.underlying t = some (.map k e)) (B n : Nat) (f : Int → Option Value)
    (hm : a.eval m = .map (some B)) (hown : mapF w P k B n f) (hn : n < maxLen) (key : Int) (val : Value) (hx : a.eval x = .int .i64 key) (hv : a.eval v = val) (hw : (Lit.int .i64 key).wf = true)
    (hK : ∀ w', mapF w' P k B (n + 1) (fun y => if y = key then some val else f y) → w.grownBy w' (some B) → wpList P ops Q rest (a.put o.dst undef) w') : wpList P ops Q (o :: rest) a w := by
  obtain ⟨D, h1, h2⟩ := hown
  refine wpList_mapUpdate_own w hg m x v t hop k e (int_keyed hk) ht asHeld B n D hm h1 hn (.int .i64 key) val (.int .i64 key) hx hv (keyOf_int_mk hk hw) (.held val) [] rfl (fun w' h' hg' => hK w' ⟨_, h', fun y hy => ?_⟩ hg')
  have hm' := h1.isMap
  show Maps.has (D.put (.int .i64 key) (.held val)) (.int .i64 y) = (if y = key then some val else f y).isSome ∧ ∀ v', (if y = key then some val else f y) = some v' → ∀ z, (D.put (.int .i64 key) (.held val)).atKey (.int .i64 y) z = .held v'
  by_cases e : y = key
  · subst e
    rw [if_pos rfl]
    refine ⟨has_put_same hm' (show WideAt.IsKeyLit (.int .i64 y) from trivial) _, fun v' hv' z => ?_⟩
    cases hv'
    exact atKey_put_same hm' (show WideAt.IsKeyLit (.int .i64 y) from trivial) _ _
  · have hne : Lit.int .i64 y ≠ .int .i64 key := fun h => by cases h; exact e rfl
    rw [if_neg e, has_put_other hne]
    exact ⟨(h2 y hy).1, fun v' hv' z => by rw [atKey_put_other hne]; exact (h2 y hy).2 v' hv' z⟩
theorem mapF_look (hg : o.guard = none) (m x : Operand) (t : TypeId) (c : Bool) (hop : o.op = Op.lookup t m x c) (k e : TypeId) (hk : P.underlying k = some (.int .i64)) (ht : P.underlying t = some (.map k e)) {z : Value} (hz : (zeroValue e).run P w = .ok z w) (B n : Nat) (f : Int → Option Value)
    (hm : a.eval m = .map (some B)) (hown : mapF w P k B n f) (key : Int) (hx : a.eval x = .int .i64 key) (hw : (Lit.int .i64 key).wf = true)
    (hK : wpList P ops Q rest (a.put o.dst (if c then .tuple #[(f key).getD z, .bool (f key).isSome] else (f key).getD z)) w) : wpList P ops Q (o :: rest) a w := by
  obtain ⟨D, ⟨es, clock, hb, F, hs, hD⟩, h2⟩ := hown
  obtain ⟨q1, q2⟩ := h2 key hw
  have hd : Maps.has D (.int .i64 key) = es.toList.any (fun x => (rg P k asHeld x).1.sameKey (.int .i64 key)) := by
    rw [hD]
    show ((es.toList.map (rg P k asHeld)).foldr DataW.insert []).any _ = _
    rw [Bool.eq_iff_iff, List.any_eq_true, List.any_eq_true]
    constructor
    · rintro ⟨p, hp, hp2⟩
      obtain ⟨x, hx, rfl⟩ := List.mem_map.1 (mem_sorted.1 hp)
      exact ⟨x, hx, hp2⟩
    · rintro ⟨x, hx, hp2⟩
      exact ⟨_, mem_sorted.2 (List.mem_map.2 ⟨x, hx, rfl⟩), hp2⟩
  refine wpList_plain hg fun K' hK' => ?_
  unfold Oper.wp
  rcases fit_look c (int_keyed hk) ht hz hb F (keyOf_int_mk hk hw) with ⟨hrun, hno, hat⟩ | ⟨e0, y, he0, hkey, hrun, hR, hat, _⟩
  · have hf : f key = none := by
      cases hf : f key with
      | none => rfl
      | some v =>
        have := q2 v hf (.nil)
        rw [hD, hat] at this
        cases this
    rw [hf] at hK
    simp [execOp, hop, hm, hx, hrun, Result.andThen]
    exact hK' _ _ (by simpa using hK)
  · have hv : f key = some e0.val := by
      have h3 : Maps.has D (.int .i64 key) = true := by
        rw [hd, List.any_eq_true]
        refine ⟨e0, he0, ?_⟩
        obtain ⟨y', hy'⟩ := F.reads e0 he0
        have m1 := rd_key hy'
        rw [rg_of hy']
        rw [hkey, keyOf_int_mk hk hw] at m1
        rw [← Option.some.inj m1]
        exact WideAt.sameKey_self trivial
      rw [h3] at q1
      cases hf : f key with
      | none => rw [hf] at q1; cases q1
      | some v =>
        have := q2 v hf .nil
        rw [hD, hat] at this
        unfold asHeld at hR
        cases hR
        cases this
        rfl
    rw [hv] at hK
    simp [execOp, hop, hm, hx, hrun, Result.andThen]
    exact hK' _ _ (by simpa using hK)
theorem mapF_range (hg : o.guard = none) (m : Operand) (t : TypeId) (hop : o.op = Op.range t m) (k e : TypeId) (hk : P.underlying k = some (.int .i64)) (ht : P.underlying t = some (.map k e)) (B n : Nat) (f : Int → Option Value)
    (hm : a.eval m = .map (some B)) (hown : mapF w P k B n f)
    (hK : ∀ w' cnt, mapR w' P k B w.heap.size n f (fun x => (f x).isSome = true) cnt → w.grownBy w' none → w'.heap.size = w.heap.size + 1 → wpList P ops Q rest (a.put o.dst (.pointer (some ⟨w.heap.size, 0, none⟩))) w') : wpList P ops Q (o :: rest) a w := by
  obtain ⟨D, h1, h2⟩ := hown
  refine wpList_range_own w hg m t hop k e (int_keyed hk) ht asHeld B n D hm h1 (fun w' hr hg' hs => hK w' _ ⟨D, _, hr, h2, fun x hx => ?_⟩ hg' hs)
  rw [(h2 x hx).1]
theorem mapF_next (hg : o.guard = none) (it : Operand) (hop : o.op = Op.next it false) (k : TypeId) (hk : P.underlying k = some (.int .i64)) (B r n : Nat) (f : Int → Option Value) (left : Int → Prop) (cnt : Nat)
    (hit : a.eval it = .pointer (some ⟨r, 0, none⟩)) (h : mapR w P k B r n f left cnt)
    (hDone : (∀ x, (Lit.int .i64 x).wf = true → ¬ left x) → wpList P ops Q rest (a.put o.dst (.tuple #[.bool false])) w)
    (hMore : ∀ (x : Int) (c : Value) (w' : World) (cnt' : Nat), (Lit.int .i64 x).wf = true → left x → f x = some c → mapR w' P k B r n f (fun z => left z ∧ z ≠ x) cnt' → cnt' < cnt →
      w.grownBy w' (some r) → w'.heap.size = w.heap.size → (Instr.entry (.pointer (some ⟨r, 0, none⟩))).run P w' = .ok (.tuple #[.int .i64 x, c]) w' → wpList P ops Q rest (a.put o.dst (.tuple #[.bool true, .int .i64 x, c])) w') :
    wpList P ops Q (o :: rest) a w := by
  obtain ⟨D, l, h1, h2, h3⟩ := h
  refine wpList_next_ranges w hg it hop k (int_keyed hk) asHeld (Value.int .i64) (fun v : Value => v) (fun key kl hkey => by obtain ⟨x, rfl, _⟩ := Maps.keyOf_int_inv hk hkey; exact ⟨x, rfl⟩) (fun v y hv => ⟨v, rfl⟩)
    B r n D l cnt hit h1 (fun _ hl => hDone (fun x hx hh => by have := (h3 x hx).2 hh; rw [hl] at this; cases this)) (fun x c kl y w' cnt' hkey hlk hv hat hrg hlt hgr hsz hen => ?_)
  obtain ⟨x', ex, rfl, hwx⟩ := Maps.keyOf_int_inv hk hkey
  cases ex
  unfold asHeld at hv
  cases hv
  have hf : f x = some c := by
    have hh : Maps.has D (.int .i64 x) = true := by
      obtain ⟨es, clock, since, seen, c0, q1, F, q3, q4, q5, q6, q7, q8, q9, _⟩ := h1
      obtain ⟨e0, he0, hk0⟩ := q9 _ hlk
      rw [q4]
      exact List.any_eq_true.2 ⟨_, mem_sorted.2 (List.mem_map.2 ⟨e0, he0, rfl⟩), by rw [hk0]; exact WideAt.sameKey_self trivial⟩
    have q := h2 x hwx
    rw [hh] at q
    cases hf : f x with
    | none => rw [hf] at q; exact absurd q.1 (by simp)
    | some v =>
      have := q.2 v hf .nil
      rw [hat] at this
      cases this
      rfl
  refine hMore x c w' cnt' hwx ((h3 x hwx).1 hlk) hf ⟨D, _, hrg, h2, fun z hz => ?_⟩ hlt hgr hsz hen
  simp only [Bool.and_eq_true, Bool.not_eq_true']
  rw [h3 z hz]
  refine and_congr_right fun _ => ⟨fun hs e => ?_, fun hne => ?_⟩
  · subst e
    rw [WideAt.sameKey_self (show WideAt.IsKeyLit (.int .i64 z) from trivial)] at hs
    cases hs
  · cases hs : Lit.sameKey (.int .i64 z) (.int .i64 x)
    · rfl
    · exact absurd (WideAt.sameKey_eq hs) (fun e => by cases e; exact hne rfl)
end
end Go.Proofs.Ytlheknapgonakaa.Plain
