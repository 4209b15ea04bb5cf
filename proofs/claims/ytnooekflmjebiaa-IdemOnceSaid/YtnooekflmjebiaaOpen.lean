/- A slice of ints that came in, opened. -/
import Derived.Test.YtnooekflmjebiaaOnce
import Derived.Test.YtnooekflmjebiaaRows
import Derived.ProofKit
import Derived.OpenShut
import Derived.ShutString
import Derived.ChangeOld
import Derived.SizedLaws
import Derived.Deep.CondSized
import Derived.Deep.Fields
import Derived.ChangeSame
import Derived.ChangeVars
import Derived.JoinedOf
import Derived.RowKitTokens
import Derived.Stop.Joined
namespace Go.Proofs.Ytnooekflmjebiaa
open Go Go.ChangeShapes Go.WideShapes Go.ChangeAt Go.RowKit Go.Deep

theorem own : ownKnob Try.prog.godebug = none := by kernel_rfl
theorem laidOut : laidOutB Try.prog = true := by kernel_rfl
theorem bytes_int : Try.prog.bytesOf 3 = 8 := by kernel_rfl
theorem cells_int : Try.prog.cellsOf 3 = 1 := by kernel_rfl
theorem wf_i64 {x : Int} (h : (Lit.int .i64 x).wf = true) : wf64 x := by
  unfold wf64
  simp [Lit.wf, IntKind.min, IntKind.max, IntKind.signed, IntKind.bits] at h
  omega
theorem wf_i32 {x : Int} (h : (Lit.int .i32 x).wf = true) : x ≤ 2147483647 := by
  simp [Lit.wf, IntKind.min, IntKind.max, IntKind.signed, IntKind.bits] at h
  omega
theorem wf_i16 {x : Int} (h : (Lit.int .i16 x).wf = true) : x ≤ 32767 := by
  simp [Lit.wf, IntKind.min, IntKind.max, IntKind.signed, IntKind.bits] at h
  omega

section
variable {H : Type} {enc : TypeId × Value → H} {W : World} {base : Nat} {spare : Nat → Bool} {held : Bool}
set_option maxRecDepth 100000 in
theorem open_irow {v : Value} {d : DataW H} {p : List MemPlace} (hv : Value.okWide Try.prog W .any base 23 v) (h : DataW.Trod enc Try.prog W 0 spare held 23 v d p) :
    ∃ (A : Option Addr) (c : Nat) (xs : List Int), v = .slice A xs.length c ∧ IRow W A xs ∧ (∀ x ∈ xs, wf64 x) ∧ (xs.length = 0 ∨ ∃ el sp, d = .slice el sp ∧ xs.length ≤ el.length + sp.length) := by
  obtain ⟨a0, len, cap, rfl⟩ := okWide_slice Try.underlying23 hv
  obtain ⟨fuel, hf⟩ := h
  rcases open_ints Try.underlying23 Try.underlying3 cells_int hf with ⟨hcs, _⟩ | ⟨a, l, c, zs, hcs, _, hl, hm, hlen, hx, hi, hwf⟩
  · simp [Value.cells] at hcs
    obtain ⟨rfl, rfl, rfl⟩ := hcs
    exact ⟨none, 0, [], rfl, fun h => absurd h (by decide), by simp, .inl rfl⟩
  · simp [Value.cells] at hcs
    obtain ⟨rfl, rfl, rfl⟩ := hcs
    have hlm : len ≤ zs.length := by rw [hlen]; split <;> omega
    have hxl : (zs.take len).length = len := by rw [List.length_take]; omega
    refine ⟨some a, cap, zs.take len, by rw [hxl], fun hn => ?_, fun x hx => wf_i64 (hwf x (List.mem_of_mem_take hx)), .inr ?_⟩
    · rw [hxl] at hn
      obtain ⟨b, o, sp⟩ := a
      have h00 := hi 0 (by omega)
      have hspot : sp = none := by simpa [Addr.add] using World.cell?_spot h00
      subst hspot
      have hlt := World.block_lt_of_cell? W _ h00
      refine ⟨b, o, rfl, by simpa [Addr.add] using hlt, fun i x hx => ?_⟩
      rw [List.getElem?_take] at hx
      split at hx
      · have hil := (List.getElem?_eq_some_iff.1 hx).1
        have k := hi i hil
        simp only [add_plain] at k
        rw [k]
        simp [List.getD, hx]
      · cases hx
    · simp only [Prod.mk.injEq] at hx
      exact ⟨_, _, hx.1, by simp [lits]⟩
end
end Go.Proofs.Ytnooekflmjebiaa
