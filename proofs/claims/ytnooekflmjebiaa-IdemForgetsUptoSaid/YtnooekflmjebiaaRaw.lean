/- A map keyed by int64 whose elements are any values: as a function from keys to values. -/
import Derived.WalkKit
import Derived.ProofKit
import Derived.Maps.Own
import Derived.Maps.OwnOps
import Derived.Maps.OwnSet
import Derived.Maps.Views
import Derived.Test.YtnooekflmjebiaaProg
namespace Go.Proofs.Ytnooekflmjebiaa
open Go Go.RowKit Go.Maps
set_option linter.unusedVariables false

/-- An element reads as itself. -/
def raw (v : Value) : Option (DataW Value × List MemPlace) := some (.held v, [])
theorem keyed : Keyed Try.prog 2 := int_keyed Try.underlying2
def wf64 (x : Int) : Prop := -9223372036854775808 ≤ x ∧ x ≤ 9223372036854775807
theorem wf_lit {x : Int} (h : wf64 x) : (Lit.int .i64 x).wf = true := by
  unfold wf64 at h
  simp [Lit.wf, IntKind.min, IntKind.max, IntKind.signed, IntKind.bits]
  omega
theorem hkey {x : Int} (h : wf64 x) : keyOf Try.prog 2 (.int .i64 x) = some (.int .i64 x) := keyOf_int_mk Try.underlying2 (wf_lit h)

/-- Block b is a map of at most n entries; at x it holds f x. -/
def Mp (w : World) (b n : Nat) (f : Int → Option Value) : Prop :=
  ∃ D : DataW Value, w.ownsMap Try.prog 2 raw b n D ∧ ∀ x z, Maps.has D (.int .i64 x) = (f x).isSome ∧ D.atKey (.int .i64 x) (.held z) = .held ((f x).getD z)

theorem Mp.made (w : World) : Mp (w.alloc (.map #[] 0)) w.heap.size 0 (fun _ => none) :=
  ⟨.map [], World.ownsMap_made _ _ _ _, fun x z => ⟨rfl, rfl⟩⟩
theorem Mp.lt {w : World} {b n : Nat} {f : Int → Option Value} (h : Mp w b n f) : b < w.heap.size := h.choose_spec.1.lt
theorem Mp.kept {w w' : World} {b n : Nat} {f : Int → Option Value} (h : Mp w b n f) (hb : w'.heap[b]? = w.heap[b]?) : Mp w' b n f := by
  obtain ⟨D, ⟨es, clock, h1, h2⟩, h3⟩ := h
  exact ⟨D, ⟨es, clock, hb.trans h1, h2⟩, h3⟩

theorem keylit (x : Int) : WideAt.IsKeyLit (.int .i64 x) := by trivial
theorem Mp.store_view {D : DataW Value} (hm : IsMap D) {f : Int → Option Value} (h : ∀ x z, Maps.has D (.int .i64 x) = (f x).isSome ∧ D.atKey (.int .i64 x) (.held z) = .held ((f x).getD z)) (p : Int) (v : Value) :
    ∀ x z, Maps.has (D.put (.int .i64 p) (.held v)) (.int .i64 x) = ((if x = p then some v else f x)).isSome ∧ (D.put (.int .i64 p) (.held v)).atKey (.int .i64 x) (.held z) = .held ((if x = p then some v else f x).getD z) := by
  intro x z
  by_cases hx : x = p
  · subst hx
    rw [if_pos rfl, has_put_same hm (keylit x), atKey_put_same hm (keylit x)]
    exact ⟨rfl, rfl⟩
  · have hne : (Lit.int .i64 x) ≠ (Lit.int .i64 p) := fun e => hx (by injection e)
    rw [if_neg hx, has_put_other hne, atKey_put_other hne]
    exact h x z

section
variable {P' : Program} (w : World) {ops : Array Oper} {rest : List Oper} {o : Oper} {a : Act} {Q : Exit → Act → World → Prop}
/-- 'v, ok := m[k]'. -/
theorem look_ok (hg : o.guard = none) (m x : Operand) (hop : o.op = Op.lookup 54 m x true) {z : Value} (hz : (zeroValue 60).run Try.prog w = .ok z w)
    (b n : Nat) (f : Int → Option Value) (hm : a.eval m = .map (some b)) (hown : Mp w b n f) (p : Int) (hp : wf64 p) (hx : a.eval x = .int .i64 p)
    (hK : wpList Try.prog ops Q rest (a.put o.dst (.tuple #[(f p).getD z, .bool (f p).isSome])) w) : wpList Try.prog ops Q (o :: rest) a w := by
  obtain ⟨D, hD, hv⟩ := hown
  refine wpList_lookup_own_ok w hg m x 54 hop 2 60 keyed Try.underlying54 raw hz (.held z) [] rfl b n D hm hD _ _ hx (hkey hp) ?_
  intro v ps h
  have h2 := (hv p z).2
  have h1 := (hv p z).1
  rw [h2] at h
  unfold raw at h
  simp only [Option.some.injEq, Prod.mk.injEq, DataW.held.injEq] at h
  rw [h.1, h1]
  exact hK
/-- 'm[k]'. -/
theorem look_at (hg : o.guard = none) (m x : Operand) (hop : o.op = Op.lookup 54 m x false) {z : Value} (hz : (zeroValue 60).run Try.prog w = .ok z w)
    (b n : Nat) (f : Int → Option Value) (hm : a.eval m = .map (some b)) (hown : Mp w b n f) (p : Int) (hp : wf64 p) (hx : a.eval x = .int .i64 p)
    (hK : wpList Try.prog ops Q rest (a.put o.dst ((f p).getD z)) w) : wpList Try.prog ops Q (o :: rest) a w := by
  obtain ⟨D, hD, hv⟩ := hown
  refine wpList_plain hg fun K' hK' => ?_
  obtain ⟨v, ps, hrun, h⟩ := hD.lookup keyed Try.underlying54 hz (zd := .held z) (zp := []) rfl (hkey hp)
  have h2 := (hv p z).2
  rw [h2] at h
  unfold raw at h
  simp only [Option.some.injEq, Prod.mk.injEq, DataW.held.injEq] at h
  unfold Oper.wp
  simp [execOp, hop, hm, hx, hrun, Result.andThen]
  rw [h.1]
  exact hK' _ _ hK
/-- 'm[k] = v'. -/
theorem store_at (hg : o.guard = none) (m x v : Operand) (hop : o.op = Op.mapUpdate 54 m x v)
    (b n : Nat) (f : Int → Option Value) (hm : a.eval m = .map (some b)) (hown : Mp w b n f) (hn : n < maxLen) (p : Int) (hp : wf64 p) (hx : a.eval x = .int .i64 p) (val : Value) (hv : a.eval v = val)
    (hK : ∀ w', Mp w' b (n + 1) (fun y => if y = p then some val else f y) → w.grownBy w' (some b) → wpList Try.prog ops Q rest (a.put o.dst undef) w') : wpList Try.prog ops Q (o :: rest) a w := by
  obtain ⟨D, hD, hview⟩ := hown
  refine wpList_mapUpdate_own w hg m x v 54 hop 2 60 keyed Try.underlying54 raw b n D hm hD hn _ _ _ hx hv (hkey hp) (.held val) [] rfl ?_
  intro w' h1 h2
  exact hK w' ⟨_, h1, Mp.store_view hD.isMap hview p val⟩ h2
end
end Go.Proofs.Ytnooekflmjebiaa
