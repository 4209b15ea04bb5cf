/- A script that came in, opened. -/
import Derived.Test.YtomlhedichdkkaaPlays
import Derived.Test.YtomlhedichdkkaaOpen
namespace Go.Proofs.Ytomlhedichdkkaa
open Go Go.ChangeShapes Go.WideShapes Go.ChangeAt Go.RowKit Go.Deep

theorem bytes_op : Try.prog.bytesOf 49 = 80 := by kernel_rfl
theorem cells_op : Try.prog.cellsOf 49 = 11 := by kernel_rfl

section
variable {H : Type} {enc : TypeId × Value → H} {W : World} {base : Nat} {spare : Nat → Bool} {held : Bool}

theorem trod_one_wf {t : TypeId} {k : IntKind} {fuel : Nat} {cs : List Value} {x : Option (DataW H × List MemPlace)} (ht : Try.prog.underlying t = some (.int k)) (hx : x.isSome = true) (h : DataW.trod enc Try.prog W base spare held fuel t cs = x) : ∃ n, cs = [.int k n] ∧ (Lit.int k n).wf = true := by
  obtain ⟨y, rfl⟩ := Option.isSome_iff_exists.1 hx
  obtain ⟨n, h1, _, h2⟩ := DataW.trod_int ht h
  exact ⟨n, h1, h2⟩

/-- The cells of a call that reads. -/
theorem trod_opr {fuel : Nat} {cs : List Value} {x : DataW H × List MemPlace} (h : DataW.trod enc Try.prog W base spare held fuel 49 cs = some x) : ∃ y : Opr, cs = y.vs ∧ -9223372036854775808 ≤ y.M ∧ y.M ≤ 9223372036854775807 := by
  obtain ⟨xs, n, _, _, hlen, hxl, hf⟩ := DataW.trod_struct Try.underlying49 h
  rw [cells_op] at hlen
  have hxl' : xs.length = 4 := hxl
  have c1 : Try.prog.cellsOf 2 = 1 := by kernel_rfl
  have c2 : Try.prog.cellsOf 3 = 1 := by kernel_rfl
  have c3 : Try.prog.cellsOf 30 = 8 := by kernel_rfl
  have hs : ∀ i, i < 4 → xs[i]?.isSome = true := fun i hi => by rw [List.getElem?_eq_getElem (by omega)]; rfl
  have f0 : DataW.trod enc Try.prog W base spare held n 3 ((cs.drop 0).take 1) = xs[0]? := by have h := hf 0 _ rfl; have h' : DataW.trod enc Try.prog W base spare held n 3 ((cs.drop 0).take (Try.prog.cellsOf 3)) = xs[0]? := h; rwa [c2] at h'
  have f1 : DataW.trod enc Try.prog W base spare held n 30 ((cs.drop 1).take 8) = xs[1]? := by have h := hf 1 _ rfl; have h' : DataW.trod enc Try.prog W base spare held n 30 ((cs.drop 1).take (Try.prog.cellsOf 30)) = xs[1]? := h; rwa [c3] at h'
  have f2 : DataW.trod enc Try.prog W base spare held n 2 ((cs.drop 9).take 1) = xs[2]? := by have h := hf 2 _ rfl; have h' : DataW.trod enc Try.prog W base spare held n 2 ((cs.drop 9).take (Try.prog.cellsOf 2)) = xs[2]? := h; rwa [c1] at h'
  have f3 : DataW.trod enc Try.prog W base spare held n 3 ((cs.drop 10).take 1) = xs[3]? := by have h := hf 3 _ rfl; have h' : DataW.trod enc Try.prog W base spare held n 3 ((cs.drop 10).take (Try.prog.cellsOf 3)) = xs[3]? := h; rwa [c2] at h'
  obtain ⟨n0, g0, _⟩ := trod_one_wf Try.underlying3 (hs 0 (by omega)) f0
  obtain ⟨y1, hy1⟩ := Option.isSome_iff_exists.1 (hs 1 (by omega))
  rw [hy1] at f1
  obtain ⟨e, g1⟩ := trod_ent f1
  obtain ⟨n2, g2, _⟩ := trod_one_wf Try.underlying2 (hs 2 (by omega)) f2
  obtain ⟨n3, g3, w3⟩ := trod_one_wf Try.underlying3 (hs 3 (by omega)) f3
  refine ⟨⟨n0, e, n2, n3⟩, ?_, wf_i64 w3⟩
  have hcs : cs = (cs.drop 0).take 1 ++ ((cs.drop 1).take 8 ++ ((cs.drop 9).take 1 ++ (cs.drop 10).take 1)) := by
    match cs, hlen with
    | [a0, a1, a2, a3, a4, a5, a6, a7, a8, a9, a10], _ => rfl
  rw [hcs, g0, g1, g2, g3]
  rfl

theorem open_oprs {v : Value} {d : DataW H} {p : List MemPlace} (hv : Value.okWide Try.prog W .any base 44 v) (h : DataW.Trod enc Try.prog W 0 spare held 44 v d p) :
    ∃ (A : Option Addr) (c : Nat) (xs : List Opr), v = .slice A xs.length c ∧ ORow W A xs ∧ (xs.length = 0 ∨ ∃ el sp, d = .slice el sp ∧ xs.length ≤ el.length + sp.length) := by
  obtain ⟨a0, len, cap, rfl⟩ := okWide_slice Try.underlying44 hv
  obtain ⟨fuel, hf⟩ := h
  rcases open_slice Try.underlying44 hf with ⟨hcs, _⟩ | ⟨a, l, c, m, n, D, Pl, hcs, _, hl, hm, hmm, hx, hi⟩
  · simp [Value.cells] at hcs
    obtain ⟨rfl, rfl, rfl⟩ := hcs
    exact ⟨none, 0, [], rfl, fun h => absurd h (by decide), .inl rfl⟩
  · simp [Value.cells] at hcs
    obtain ⟨rfl, rfl, rfl⟩ := hcs
    have hlm : len ≤ m := by rw [hmm]; split <;> omega
    rw [cells_op] at hi
    have key : ∀ i, i < len → ∃ y : Opr, (∀ j u, y.vs[j]? = some u → W.cell? ((a.add (i * 11)).add j) = some u) ∧ -9223372036854775808 ≤ y.M ∧ y.M ≤ 9223372036854775807 := fun i hil => by
      obtain ⟨cs', hc, ht⟩ := hi i (by omega)
      obtain ⟨y, rfl, hM⟩ := trod_opr ht
      obtain ⟨_, _, hat⟩ := World.cells?_some hc
      refine ⟨y, fun j u hu => ?_, hM⟩
      have hj : j < 11 := by
        have := (List.getElem?_eq_some_iff.1 hu).1
        simpa [Opr.vs] using this
      rw [hat j hj, hu]
    obtain ⟨E, hE⟩ : ∃ E : Nat → Opr, ∀ i, i < len → (∀ j u, (E i).vs[j]? = some u → W.cell? ((a.add (i * 11)).add j) = some u) ∧ -9223372036854775808 ≤ (E i).M ∧ (E i).M ≤ 9223372036854775807 :=
      ⟨fun i => if h : i < len then (key i h).choose else ⟨0, Ent.zero, 0, 0⟩, fun i hil => by simp only [hil, dif_pos]; exact (key i hil).choose_spec⟩
    refine ⟨some a, cap, (List.range len).map E, by simp, fun hn => ?_, .inr ?_⟩
    · have hn' : 0 < len := by simpa using hn
      obtain ⟨b, o, sp⟩ := a
      have h00 := (hE 0 hn').1 0 _ rfl
      have hspot : sp = none := by simpa [Addr.add] using World.cell?_spot h00
      subst hspot
      have hlt := World.block_lt_of_cell? W _ h00
      refine ⟨b, o, rfl, by simpa [Addr.add] using hlt, fun i e he => ?_⟩
      have hil : i < len := by
        have := (List.getElem?_eq_some_iff.1 he).1
        simpa using this
      simp [hil] at he
      subst he
      have k := (hE i hil).1
      simp only [add_plain] at k
      exact ⟨⟨k 0 _ rfl, k 1 _ rfl, k 2 _ rfl, k 3 _ rfl, k 4 _ rfl, k 5 _ rfl, k 6 _ rfl, k 7 _ rfl, k 8 _ rfl, k 9 _ rfl, k 10 _ rfl⟩, (hE i hil).2⟩
    · simp only [Prod.mk.injEq] at hx
      exact ⟨_, _, hx.1, by simp⟩
end
end Go.Proofs.Ytomlhedichdkkaa
