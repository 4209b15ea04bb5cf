/- A slice of bytes and a slice of slices of bytes that came in, opened; the bulk of what came in. -/
import Derived.Test.YtkhopknpadncdaaSafeL
import Derived.Test.YtkhopknpadncdaaRows
import Derived.ProofKit
import Derived.OpenShut
import Derived.ShutString
import Derived.ChangeOld
import Derived.SizedLaws
import Derived.Deep.CondSized
import Derived.Deep.Fields
import Derived.Deep.Matrix
import Derived.ChangeSame
import Derived.ChangeVars
import Derived.JoinedOf
import Derived.RowKitTokens
import Derived.Stop.Joined
import Derived.JoinedCond
namespace Go.Proofs.Ytkhopknpadncdaa
open Go Go.ChangeShapes Go.WideShapes Go.ChangeAt Go.RowKit Go.Deep Go.Proofs.YtkhopknpadncdaaW.PrintWords
set_option linter.unusedVariables false

theorem own : ownKnob Try.prog.godebug = none := by kernel_rfl
theorem laidOut : laidOutB Try.prog = true := by kernel_rfl
theorem cells_u8 : Try.prog.cellsOf 5 = 1 := by kernel_rfl
theorem cells_row : Try.prog.cellsOf 34 = 1 := by kernel_rfl
theorem bulk_pos {H : Type} (d : DataW H) : 1 ≤ Rows.uptoBulk d := by
  cases d with
  | lit l => cases l <;> simp [Rows.uptoBulk]
  | _ => simp [Rows.uptoBulk]
theorem bulk_len {H : Type} : ∀ l : List (DataW H), l.length ≤ Rows.uptoBulkAll l
  | [] => Nat.le_refl _
  | d :: r => by
    have h1 := bulk_pos d
    have h2 := bulk_len r
    simp only [Rows.uptoBulkAll, List.length_cons]
    omega
theorem bulk_mem {H : Type} {d : DataW H} : ∀ {l : List (DataW H)}, d ∈ l → Rows.uptoBulk d ≤ Rows.uptoBulkAll l
  | e :: r, h => by
    simp only [Rows.uptoBulkAll]
    rcases List.mem_cons.1 h with h | h
    · rw [h]; omega
    · have := bulk_mem h
      omega
theorem wf_u8 {x : Int} (h : (Lit.int .u8 x).wf = true) : 0 ≤ x ∧ x ≤ 255 := by
  simpa [Lit.wf, IntKind.min, IntKind.max, IntKind.signed, IntKind.bits] using h
theorem bytes_row {W : World} {A : Option Addr} {n : Nat} {zs : List Int} (hn : n ≤ zs.length) (hm : n ≤ 9223372036854775807) (hz : ∀ a, A = some a → ∀ i, i < zs.length → W.cell? (a.add i) = some (.int .u8 (zs.getD i 0))) (hA : A = none → n = 0) : (Kd.int .u8).C W A n (zs.take n) :=
  Kd.C_of_reads (d := 0) ⟨by rw [List.length_take]; omega, hm, fun h0 => by
    cases A with
    | none => have := hA rfl; omega
    | some a => exact ⟨a, rfl, fun j hj => by rw [hz a rfl j (by omega)]; simp [List.getD_eq_getElem?_getD, hj]⟩⟩
section
variable {H : Type} {enc : TypeId × Value → H} {W : World} {base : Nat}
set_option maxRecDepth 100000 in
theorem open_u8row {v : Value} {d : DataW H} {p : List MemPlace} (hv : Value.okWide Try.prog W .any base 34 v) (h : DataW.Trod enc Try.prog W 0 (fun _ => true) true 34 v d p) :
    ∃ (A : Option Addr) (n c : Nat) (xs : List Int), v = .slice A n c ∧ n ≤ c ∧ (Kd.int .u8).C W A n xs ∧ (∀ b ∈ xs, 0 ≤ b ∧ b ≤ 255) ∧ n ≤ Rows.uptoBulk d := by
  obtain ⟨a0, len, cap, rfl⟩ := okWide_slice Try.underlying34 hv
  obtain ⟨fuel, hf⟩ := h
  rcases open_ints Try.underlying34 Try.underlying5 cells_u8 hf with ⟨hcs, _⟩ | ⟨a, l, c, zs, hcs, _, hl, hm, hlen, hx, hi, hwf⟩
  · simp [Value.cells] at hcs
    obtain ⟨rfl, rfl, rfl⟩ := hcs
    exact ⟨none, 0, 0, [], rfl, Nat.le_refl _, Kd.C_nil _ _, fun b hb => (nomatch hb), Nat.zero_le _⟩
  · simp [Value.cells] at hcs
    obtain ⟨rfl, rfl, rfl⟩ := hcs
    rw [if_pos rfl] at hlen
    refine ⟨some a, len, cap, zs.take len, rfl, hl, bytes_row (by omega) (by unfold maxLen at hm; omega) (fun a' e i hi' => by injection e with e; subst e; exact hi i hi') (fun e => nomatch e), fun b hb => wf_u8 (hwf b (List.mem_of_mem_take hb)), ?_⟩
    simp only [Prod.mk.injEq] at hx
    rw [hx.1]
    have h1 := bulk_len (lits (H := H) .u8 (zs.take len))
    have h2 : (lits (H := H) .u8 (zs.take len)).length = len := by simp [lits]; omega
    simp only [Rows.uptoBulk]
    omega
set_option maxRecDepth 100000 in
theorem open_adds {v : Value} {d : DataW H} {p : List MemPlace} (hv : Value.okWide Try.prog W .any base 53 v) (h : DataW.Trod enc Try.prog W 0 (fun _ => true) true 53 v d p) :
    ∃ (A : Option Addr) (n c : Nat) (adds : List (List Int)), v = .slice A n c ∧ Adds W A n adds ∧ (∀ a ∈ adds, Byt a ∧ a.length ≤ Rows.uptoBulk d) ∧ n ≤ Rows.uptoBulk d := by
  obtain ⟨a0, len, cap, rfl⟩ := okWide_slice Try.underlying53 hv
  obtain ⟨fuel, hf⟩ := h
  rcases open_int_rows Try.underlying53 Try.underlying34 Try.underlying5 cells_row cells_u8 hf with ⟨hcs, _⟩ | ⟨a, l, c, A, L, C, Z, hcs, _, hl, hm, hx, hi⟩
  · simp [Value.cells] at hcs
    obtain ⟨rfl, rfl, rfl⟩ := hcs
    exact ⟨none, 0, 0, [], rfl, ⟨rfl, fun i a h => (nomatch h)⟩, fun a h => (nomatch h), Nat.zero_le _⟩
  · simp [Value.cells] at hcs
    obtain ⟨rfl, rfl, rfl⟩ := hcs
    simp only [Prod.mk.injEq] at hx
    have hb : ∀ r, r < len → (Z r).length ≤ Rows.uptoBulk d := fun r hr => by
      obtain ⟨_, h1, h2, h3, h4, h5, h6⟩ := hi r (by omega)
      rw [hx.1]
      have hmem := bulk_mem (H := H) (List.mem_map.2 ⟨r, List.mem_range.2 hr, rfl⟩ : intRow .u8 (A r) (L r) (Z r) ∈ (List.range len).map fun r => intRow .u8 (A r) (L r) (Z r))
      have hz : (Z r).length ≤ Rows.uptoBulk (intRow (H := H) .u8 (A r) (L r) (Z r)) := by
        cases hA : A r with
        | none => have := h5 hA; omega
        | some a' =>
          have e1 := bulk_len (lits (H := H) .u8 ((Z r).take (L r)))
          have e2 := bulk_len (lits (H := H) .u8 ((Z r).drop (L r)))
          have e3 : (lits (H := H) .u8 ((Z r).take (L r))).length + (lits (H := H) .u8 ((Z r).drop (L r))).length = (Z r).length := by simp [lits]; omega
          unfold intRow
          simp only [Rows.uptoBulk]
          omega
      simp only [Rows.uptoBulk]
      omega
    refine ⟨some a, len, cap, (List.range len).map fun r => (Z r).take (L r), rfl, ⟨by simp, fun i x hxi => ?_⟩, fun x hxm => ?_, ?_⟩
    · have hil : i < len := by
        have := (List.getElem?_eq_some_iff.1 hxi).1
        simpa using this
      simp [hil] at hxi
      subst hxi
      obtain ⟨h0, h1, h2, h3, h4, h5, h6⟩ := hi i (by omega)
      obtain ⟨b, o, sp⟩ := a
      have h00 := (hi 0 (by omega)).1
      have hspot : sp = none := by simpa [Addr.add] using World.cell?_spot h00
      subst hspot
      rw [WideShapes.add_plain] at h0
      have hlt := World.block_lt_of_cell? W _ h0
      have hL : ((Z i).take (L i)).length = L i := by rw [List.length_take]; omega
      rw [hL]
      refine ⟨b, o, A i, C i, rfl, hlt, h0, h1, bytes_row (by omega) (by unfold maxLen at h2; omega) (fun a' e j hj => (h6 a' e).2 j (by omega)) (fun e => by have := h5 e; omega)⟩
    · obtain ⟨r, hr, rfl⟩ := List.mem_map.1 hxm
      have hr := List.mem_range.1 hr
      obtain ⟨h0, h1, h2, h3, h4, h5, h6⟩ := hi r (by omega)
      exact ⟨fun b hb => wf_u8 (h4 b (List.mem_of_mem_take hb)), Nat.le_trans (by rw [List.length_take]; omega) (hb r hr)⟩
    · rw [hx.1]
      have h1 := bulk_len ((List.range len).map fun r => intRow (H := H) .u8 (A r) (L r) (Z r))
      rw [List.length_map, List.length_range] at h1
      simp only [Rows.uptoBulk]
      omega
end
theorem wf_i64 {x : Int} (h : (Lit.int .i64 x).wf = true) : -9223372036854775808 ≤ x ∧ x ≤ 9223372036854775807 := by
  simpa [Lit.wf, IntKind.min, IntKind.max, IntKind.signed, IntKind.bits] using h
end Go.Proofs.Ytkhopknpadncdaa
