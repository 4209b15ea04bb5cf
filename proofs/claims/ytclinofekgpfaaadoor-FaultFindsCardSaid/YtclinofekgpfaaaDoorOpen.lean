/- A slice of ints that came in, opened; the library's variable that the row lists. -/
import Derived.Test.YtclinofekgpfaaaDoorLaws
import Derived.Test.YtclinofekgpfaaaDoorRows
import Derived.ProofKit
import Derived.OpenShut
import Derived.ShutString
import Derived.ChangeOld
import Derived.SizedLaws
import Derived.Deep.CondSized
import Derived.Deep.Fields
import Derived.ChangeSame
import Derived.ChangeVars
import Derived.JoinedOf
import Derived.RowKitTokens
import Derived.LaidLaws
import Derived.LaidHandle
import Derived.Stop.Joined
namespace Go.Proofs.YtclinofekgpfaaaDoor
open Go Go.ChangeShapes Go.WideShapes Go.ChangeAt Go.RowKit Go.Deep

theorem own : ownKnob Tryd.prog.godebug = none := by kernel_rfl
theorem laidOut : laidOutB Tryd.prog = true := by kernel_rfl
theorem bytes_int : Tryd.prog.bytesOf 3 = 8 := by kernel_rfl
theorem cells_int : Tryd.prog.cellsOf 3 = 1 := by kernel_rfl

section
variable {H : Type} {enc : TypeId × Value → H} {W : World} {base : Nat} {spare : Nat → Bool} {held : Bool}
set_option maxRecDepth 100000 in
theorem open_irow {v : Value} {d : DataW H} {p : List MemPlace} (hv : Value.okWide Tryd.prog W .any base 22 v) (h : DataW.Trod enc Tryd.prog W 0 spare held 22 v d p) :
    ∃ (A : Option Addr) (c : Nat) (xs : List Int), v = .slice A xs.length c ∧ IRow W A xs ∧ xs.length ≤ c ∧ (xs.length = 0 ∨ ∃ el sp, d = .slice el sp ∧ xs.length ≤ el.length + sp.length) := by
  obtain ⟨a0, len, cap, rfl⟩ := okWide_slice Tryd.underlying22 hv
  obtain ⟨fuel, hf⟩ := h
  rcases open_ints Tryd.underlying22 Tryd.underlying3 cells_int hf with ⟨hcs, _⟩ | ⟨a, l, c, zs, hcs, _, hl, hm, hlen, hx, hi, _⟩
  · simp [Value.cells] at hcs
    obtain ⟨rfl, rfl, rfl⟩ := hcs
    exact ⟨none, 0, [], rfl, fun h => absurd h (by decide), Nat.le_refl _, .inl rfl⟩
  · simp [Value.cells] at hcs
    obtain ⟨rfl, rfl, rfl⟩ := hcs
    have hlm : len ≤ zs.length := by rw [hlen]; split <;> omega
    have hxl : (zs.take len).length = len := by rw [List.length_take]; omega
    refine ⟨some a, cap, zs.take len, by rw [hxl], fun hn => ?_, by rw [hxl]; exact hl, .inr ?_⟩
    · rw [hxl] at hn
      obtain ⟨b, o, sp⟩ := a
      have h00 := hi 0 (by omega)
      have hspot : sp = none := by simpa [Addr.add] using World.cell?_spot h00
      subst hspot
      have hlt := World.block_lt_of_cell? W _ h00
      refine ⟨b, o, rfl, by simpa [Addr.add] using hlt, fun i x hx => ?_⟩
      rw [List.getElem?_take] at hx
      split at hx
      · have hil := (List.getElem?_eq_some_iff.1 hx).1
        have k := hi i hil
        simp only [add_plain] at k
        rw [k]
        simp [List.getD, hx]
      · cases hx
    · simp only [Prod.mk.injEq] at hx
      exact ⟨_, _, hx.1, by simp [lits]⟩
end

theorem et : Tryd.prog.globalNamed "errors.errorType" = some 0 := by kernel_rfl
theorem rt : (Tryd.prog.cutTypes.find? (·.1 == "internal/reflectlite.rtype")).map (·.2) = some 69 := by kernel_rfl
theorem oneRow : ((List.range 127).filter fun t => Tryd.prog.rowNamed t [101, 114, 114, 111, 114]) = [25] := by kernel_rfl
theorem types_size : Tryd.prog.types.size = 127 := by kernel_rfl

/-- WHAT THE CONDITION GIVES A WALK: the variable's one cell. -/
theorem handle_of_laid {W : World} (h : laidMetH Tryd.prog [("errors.errorType", Rows.laid_errors_errorType)] W) : Laid W := by
  have h' : laidMet Tryd.prog [] W ∧ handlesMet Tryd.prog [("errors.errorType", Rows.laid_errors_errorType)] W := h
  obtain ⟨name, u, ty, e1, e2, e3, e4, e5⟩ := h'.2 _ (List.mem_singleton.2 rfl)
  have en : name = [101, 114, 114, 111, 114] := (Option.some.inj e1).symm
  subst en
  obtain rfl := Option.some.inj (rt.symm.trans e2)
  have hm : ty ∈ (List.range 127).filter fun t => Tryd.prog.rowNamed t [101, 114, 114, 111, 114] := List.mem_filter.2 ⟨List.mem_range.2 (by rw [← types_size]; exact e3), e4⟩
  rw [oneRow] at hm
  obtain rfl := List.mem_singleton.1 hm
  have hh : typeHandle Tryd.prog 25 = .pointer (some ⟨4, 25, none⟩) := by kernel_rfl
  rw [hh] at e5
  unfold Laid
  simpa using World.var?_cell et e5 0

/-- A world that meets the condition: the settled one, the variable's cell laid. -/
noncomputable def laidWorld (os : Os) : World :=
  let w0 := World.holding Tryd.prog os ⟨#[], #[], []⟩
  { w0 with heap := w0.heap.modify 0 fun
      | .cells _ t frozen => .cells #[.iface 69 (.agg #[.pointer (some ⟨4, 25, none⟩)])] t frozen
      | o => o }
theorem laidWorld_met (os : Os) (args : Array Value) : laidMetH Tryd.prog [("errors.errorType", Rows.laid_errors_errorType)] ((laidWorld os).forCall (fun _ _ => 0) ⟨#[], args, []⟩).memory :=
  laidMetH_of_parts (laidMet_nil _ _) (by kernel_rfl)
end Go.Proofs.YtclinofekgpfaaaDoor
