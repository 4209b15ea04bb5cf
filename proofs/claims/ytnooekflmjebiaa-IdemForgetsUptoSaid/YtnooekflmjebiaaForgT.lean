/- The law IdemForgets: what its last loop reads. -/
import Derived.Test.YtnooekflmjebiaaForgS
namespace Go.Proofs.Ytnooekflmjebiaa
open Go Go.RowKit Go.Proofs.YtnooekflmjebiaaW.PrintWords Go.Proofs.Ytnooekflmjebiaa.PIdemPlays
set_option linter.unusedVariables false

/-- One place of each of the element's rows is read. -/
theorem read3 {W : World} {base g n cap i : Nat} {Xs : List S52} {x : S52} (h : SK W base g n cap Xs) (hx : Xs[i]? = some x) {j : Nat} (hb : Bad9 x j) :
    ∃ b2 n2 q2 b3 n3 q3 b4 n4 q4, (W.cell? ⟨g, i * 5 + 2, none⟩ = some (.slice (some ⟨b2, 0, none⟩) n2 q2) ∧ W.cell? ⟨g, i * 5 + 3, none⟩ = some (.slice (some ⟨b3, 0, none⟩) n3 q3) ∧ W.cell? ⟨g, i * 5 + 4, none⟩ = some (.slice (some ⟨b4, 0, none⟩) n4 q4)) ∧
      (W.cell? ⟨b2, j, none⟩ = some (.int .i32 (-9)) ∧ W.cell? ⟨b3, j, none⟩ = some (.int .i64 (-9)) ∧ W.cell? ⟨b4, j, none⟩ = some (.int .i64 (-9))) ∧ (j < n2 ∧ j < n3 ∧ j < n4) := by
  obtain ⟨oki, v2, v3, v4, o⟩ := S_open h hx
  obtain ⟨h2, h3, h4⟩ := hb
  have l2 := (List.getElem?_eq_some_iff.1 h2).1
  have l3 := (List.getElem?_eq_some_iff.1 h3).1
  have l4 := (List.getElem?_eq_some_iff.1 h4).1
  obtain ⟨b2, q2, e2, _⟩ := Kd.R_form o.r2 (by omega)
  obtain ⟨b3, q3, e3, _⟩ := Kd.R_form o.r3 (by omega)
  obtain ⟨b4, q4, e4, _⟩ := Kd.R_form o.r4 (by omega)
  subst e2
  subst e3
  subst e4
  have d2 := (int_get o.r2 l2).1
  have d3 := (int_get o.r3 l3).1
  have d4 := (int_get o.r4 l4).1
  rw [List.getD_eq_getElem?_getD, h2, Option.getD_some] at d2
  rw [List.getD_eq_getElem?_getD, h3, Option.getD_some] at d3
  rw [List.getD_eq_getElem?_getD, h4, Option.getD_some] at d4
  exact ⟨b2, _, q2, b3, _, q3, b4, _, q4, ⟨o.c 2 _ rfl, o.c 3 _ rfl, o.c 4 _ rfl⟩, ⟨d2, d3, d4⟩, l2, l3, l4⟩
/-- The bases of an element of a row that is read. -/
theorem want_cell {w : World} {A : Option Addr} {n i : Nat} {L : List S52} {y : S52} (h : Kd.C k52 w A n L) (hn : n = L.length) (hy : L[i]? = some y) :
    ∃ b o A4 c4, A = some ⟨b, o, none⟩ ∧ b < w.heap.size ∧ w.cell? ⟨b, o + i * 5 + 4, none⟩ = some (.slice A4 y.f4.length c4) := by
  have hil := (List.getElem?_eq_some_iff.1 hy).1
  obtain ⟨b, o, rfl⟩ := C_spot h (by omega)
  have hr : rd_T52 L (i : Int) = y := by
    unfold rd_T52
    rw [Int.toNat_natCast, List.getD_eq_getElem?_getD, hy]
    rfl
  have g1 := at_T52 h (i : Int) (by omega) (by omega)
  rw [hr, Int.toNat_natCast] at g1
  obtain ⟨ad, A2, c2, A3, c3, A4, c4, hA, d0, d1, d2, d3, d4, _⟩ := g1
  obtain rfl := Option.some.inj hA
  simp only [add_off] at d0 d4
  exact ⟨b, o, A4, c4, rfl, World.block_lt_of_cell? w _ d0, d4⟩
end Go.Proofs.Ytnooekflmjebiaa
