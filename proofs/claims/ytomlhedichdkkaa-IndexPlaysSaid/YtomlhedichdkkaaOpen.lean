/- A slice of entries that came in, opened. -/
import Derived.Test.YtomlhedichdkkaaTimes
import Derived.Test.YtomlhedichdkkaaRows
import Derived.ProofKit
import Derived.OpenShut
import Derived.ShutString
import Derived.ChangeOld
import Derived.SizedLaws
import Derived.Deep.CondSized
import Derived.Deep.Fields
namespace Go.Proofs.Ytomlhedichdkkaa
open Go Go.ChangeShapes Go.WideShapes Go.ChangeAt Go.RowKit Go.Deep

theorem own : ownKnob Try.prog.godebug = none := by kernel_rfl
theorem laidOut : laidOutB Try.prog = true := by kernel_rfl
theorem bytes_ent : Try.prog.bytesOf 30 = 56 := by kernel_rfl
theorem cells_ent : Try.prog.cellsOf 30 = 8 := by kernel_rfl

theorem wf_i64 {n : Int} (h : (Lit.int .i64 n).wf = true) : -9223372036854775808 ≤ n ∧ n ≤ 9223372036854775807 := by
  simpa [Lit.wf, IntKind.min, IntKind.max, IntKind.signed, IntKind.bits] using h

section
variable {H : Type} {enc : TypeId × Value → H} {W : World} {base : Nat} {spare : Nat → Bool} {held : Bool}

theorem trod_one {t : TypeId} {k : IntKind} {fuel : Nat} {cs : List Value} {x : Option (DataW H × List MemPlace)} (ht : Try.prog.underlying t = some (.int k)) (hx : x.isSome = true) (h : DataW.trod enc Try.prog W base spare held fuel t cs = x) : ∃ n, cs = [.int k n] := by
  obtain ⟨y, rfl⟩ := Option.isSome_iff_exists.1 hx
  obtain ⟨n, h1, _⟩ := DataW.trod_int ht h
  exact ⟨n, h1⟩

/-- The cells of an entry that reads. -/
theorem trod_ent {fuel : Nat} {cs : List Value} {x : DataW H × List MemPlace} (h : DataW.trod enc Try.prog W base spare held fuel 30 cs = some x) : ∃ e : Ent, cs = e.vs := by
  obtain ⟨xs, n, _, _, hlen, hxl, hf⟩ := DataW.trod_struct Try.underlying30 h
  rw [cells_ent] at hlen
  have hxl' : xs.length = 8 := hxl
  have c1 : Try.prog.cellsOf 2 = 1 := by kernel_rfl
  have c2 : Try.prog.cellsOf 3 = 1 := by kernel_rfl
  have c3 : Try.prog.cellsOf 28 = 1 := by kernel_rfl
  have c4 : Try.prog.cellsOf 21 = 1 := by kernel_rfl
  have hs : ∀ i, i < 8 → xs[i]?.isSome = true := fun i hi => by rw [List.getElem?_eq_getElem (by omega)]; rfl
  have f0 : DataW.trod enc Try.prog W base spare held n 2 ((cs.drop 0).take 1) = xs[0]? := by have h := hf 0 _ rfl; have h' : DataW.trod enc Try.prog W base spare held n 2 ((cs.drop 0).take (Try.prog.cellsOf 2)) = xs[0]? := h; rwa [c1] at h'
  have f1 : DataW.trod enc Try.prog W base spare held n 3 ((cs.drop 1).take 1) = xs[1]? := by have h := hf 1 _ rfl; have h' : DataW.trod enc Try.prog W base spare held n 3 ((cs.drop 1).take (Try.prog.cellsOf 3)) = xs[1]? := h; rwa [c2] at h'
  have f2 : DataW.trod enc Try.prog W base spare held n 3 ((cs.drop 2).take 1) = xs[2]? := by have h := hf 2 _ rfl; have h' : DataW.trod enc Try.prog W base spare held n 3 ((cs.drop 2).take (Try.prog.cellsOf 3)) = xs[2]? := h; rwa [c2] at h'
  have f3 : DataW.trod enc Try.prog W base spare held n 3 ((cs.drop 3).take 1) = xs[3]? := by have h := hf 3 _ rfl; have h' : DataW.trod enc Try.prog W base spare held n 3 ((cs.drop 3).take (Try.prog.cellsOf 3)) = xs[3]? := h; rwa [c2] at h'
  have f4 : DataW.trod enc Try.prog W base spare held n 2 ((cs.drop 4).take 1) = xs[4]? := by have h := hf 4 _ rfl; have h' : DataW.trod enc Try.prog W base spare held n 2 ((cs.drop 4).take (Try.prog.cellsOf 2)) = xs[4]? := h; rwa [c1] at h'
  have f5 : DataW.trod enc Try.prog W base spare held n 2 ((cs.drop 5).take 1) = xs[5]? := by have h := hf 5 _ rfl; have h' : DataW.trod enc Try.prog W base spare held n 2 ((cs.drop 5).take (Try.prog.cellsOf 2)) = xs[5]? := h; rwa [c1] at h'
  have f6 : DataW.trod enc Try.prog W base spare held n 28 ((cs.drop 6).take 1) = xs[6]? := by have h := hf 6 _ rfl; have h' : DataW.trod enc Try.prog W base spare held n 28 ((cs.drop 6).take (Try.prog.cellsOf 28)) = xs[6]? := h; rwa [c3] at h'
  have f7 : DataW.trod enc Try.prog W base spare held n 21 ((cs.drop 7).take 1) = xs[7]? := by have h := hf 7 _ rfl; have h' : DataW.trod enc Try.prog W base spare held n 21 ((cs.drop 7).take (Try.prog.cellsOf 21)) = xs[7]? := h; rwa [c4] at h'
  obtain ⟨n0, g0⟩ := trod_one Try.underlying2 (hs 0 (by omega)) f0
  obtain ⟨n1, g1⟩ := trod_one Try.underlying3 (hs 1 (by omega)) f1
  obtain ⟨n2, g2⟩ := trod_one Try.underlying3 (hs 2 (by omega)) f2
  obtain ⟨n3, g3⟩ := trod_one Try.underlying3 (hs 3 (by omega)) f3
  obtain ⟨n4, g4⟩ := trod_one Try.underlying2 (hs 4 (by omega)) f4
  obtain ⟨n5, g5⟩ := trod_one Try.underlying2 (hs 5 (by omega)) f5
  obtain ⟨n6, g6⟩ := trod_one Try.underlying28 (hs 6 (by omega)) f6
  obtain ⟨n7, g7⟩ := trod_one Try.underlying21 (hs 7 (by omega)) f7
  rw [take1_drop cs _ undef (by omega)] at g0 g1 g2 g3 g4 g5 g6 g7
  have key : ∀ j v, j < 8 → [cs.getD j undef] = [v] → cs[j]? = some v := fun j v hj hv => by
    injection hv with hv
    rw [List.getElem?_eq_getElem (by omega), ← hv]
    simp [List.getD, List.getElem?_eq_getElem (show j < cs.length by omega)]
  refine ⟨⟨n0, n1, n2, n3, n4, n5, n6, n7⟩, ?_⟩
  apply List.ext_getElem?
  intro j
  rcases Nat.lt_or_ge j 8 with hj | hj
  · have : j = 0 ∨ j = 1 ∨ j = 2 ∨ j = 3 ∨ j = 4 ∨ j = 5 ∨ j = 6 ∨ j = 7 := by omega
    rcases this with rfl | rfl | rfl | rfl | rfl | rfl | rfl | rfl
    · exact key _ _ hj g0
    · exact key _ _ hj g1
    · exact key _ _ hj g2
    · exact key _ _ hj g3
    · exact key _ _ hj g4
    · exact key _ _ hj g5
    · exact key _ _ hj g6
    · exact key _ _ hj g7
  · rw [List.getElem?_eq_none (by omega), List.getElem?_eq_none (by simpa [Ent.vs] using hj)]

theorem open_ents {v : Value} {d : DataW H} {p : List MemPlace} (hv : Value.okWide Try.prog W .any base 22 v) (h : DataW.Trod enc Try.prog W 0 spare held 22 v d p) :
    ∃ (A : Option Addr) (c : Nat) (es : List Ent), v = .slice A es.length c ∧ Row W A es ∧ (es.length = 0 ∨ ∃ el sp, d = .slice el sp ∧ es.length ≤ el.length + sp.length) := by
  obtain ⟨a0, len, cap, rfl⟩ := okWide_slice Try.underlying22 hv
  obtain ⟨fuel, hf⟩ := h
  rcases open_slice Try.underlying22 hf with ⟨hcs, _⟩ | ⟨a, l, c, m, n, D, Pl, hcs, _, hl, hm, hmm, hx, hi⟩
  · simp [Value.cells] at hcs
    obtain ⟨rfl, rfl, rfl⟩ := hcs
    exact ⟨none, 0, [], rfl, fun h => absurd h (by decide), .inl rfl⟩
  · simp [Value.cells] at hcs
    obtain ⟨rfl, rfl, rfl⟩ := hcs
    have hlm : len ≤ m := by rw [hmm]; split <;> omega
    rw [cells_ent] at hi
    have key : ∀ i, i < len → ∃ e : Ent, ∀ j u, e.vs[j]? = some u → W.cell? ((a.add (i * 8)).add j) = some u := fun i hil => by
      obtain ⟨cs', hc, ht⟩ := hi i (by omega)
      obtain ⟨e, rfl⟩ := trod_ent ht
      obtain ⟨_, _, hat⟩ := World.cells?_some hc
      refine ⟨e, fun j u hu => ?_⟩
      have hj : j < 8 := by
        have := (List.getElem?_eq_some_iff.1 hu).1
        simpa [Ent.vs] using this
      rw [hat j hj, hu]
    obtain ⟨E, hE⟩ : ∃ E : Nat → Ent, ∀ i, i < len → ∀ j u, (E i).vs[j]? = some u → W.cell? ((a.add (i * 8)).add j) = some u :=
      ⟨fun i => if h : i < len then (key i h).choose else Ent.zero, fun i hil => by simp only [hil, dif_pos]; exact (key i hil).choose_spec⟩
    refine ⟨some a, cap, (List.range len).map E, by simp, fun hn => ?_, .inr ?_⟩
    · have hn' : 0 < len := by simpa using hn
      obtain ⟨b, o, sp⟩ := a
      have h00 := hE 0 hn' 0 _ rfl
      have hspot : sp = none := by simpa [Addr.add] using World.cell?_spot h00
      subst hspot
      have hlt := World.block_lt_of_cell? W _ h00
      refine ⟨b, o, rfl, by simpa [Addr.add] using hlt, fun i e he => ?_⟩
      have hil : i < len := by
        have := (List.getElem?_eq_some_iff.1 he).1
        simpa using this
      simp [hil] at he
      subst he
      have k := hE i hil
      simp only [add_plain] at k
      exact ⟨k 0 _ rfl, k 1 _ rfl, k 2 _ rfl, k 3 _ rfl, k 4 _ rfl, k 5 _ rfl, k 6 _ rfl, k 7 _ rfl⟩
    · simp only [Prod.mk.injEq] at hx
      exact ⟨_, _, hx.1, by simp⟩
end
end Go.Proofs.Ytomlhedichdkkaa
