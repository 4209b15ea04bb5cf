/- A script of calls that came in, opened; the bulk of what came in. -/
import Derived.Test.YtnooekflmjebiaaApartP
import Derived.Test.YtnooekflmjebiaaRows
import Derived.ProofKit
import Derived.OpenShut
import Derived.ShutString
import Derived.ChangeOld
import Derived.SizedLaws
import Derived.Deep.CondSized
import Derived.Deep.Fields
import Derived.ChangeSame
import Derived.ChangeVars
import Derived.JoinedOf
import Derived.RowKitTokens
import Derived.Stop.Joined
namespace Go.Proofs.Ytnooekflmjebiaa
open Go Go.ChangeShapes Go.WideShapes Go.ChangeAt Go.RowKit Go.Deep

theorem own : ownKnob Try.prog.godebug = none := by kernel_rfl
theorem laidOut : laidOutB Try.prog = true := by kernel_rfl
theorem wf_i64 {x : Int} (h : (Lit.int .i64 x).wf = true) : wf64 x := by
  unfold wf64
  simp [Lit.wf, IntKind.min, IntKind.max, IntKind.signed, IntKind.bits] at h
  omega
theorem wf_i32 {x : Int} (h : (Lit.int .i32 x).wf = true) : x ≤ 2147483647 := by
  simp [Lit.wf, IntKind.min, IntKind.max, IntKind.signed, IntKind.bits] at h
  omega
theorem wf_i16 {x : Int} (h : (Lit.int .i16 x).wf = true) : x ≤ 32767 := by
  simp [Lit.wf, IntKind.min, IntKind.max, IntKind.signed, IntKind.bits] at h
  omega


theorem cells_op : Try.prog.cellsOf 36 = 6 := by kernel_rfl

theorem bulk_pos {H : Type} (d : DataW H) : 1 ≤ Rows.uptoBulk d := by
  cases d with
  | lit l => cases l <;> simp [Rows.uptoBulk]
  | _ => simp [Rows.uptoBulk]

theorem bulk_len {H : Type} : ∀ l : List (DataW H), l.length ≤ Rows.uptoBulkAll l
  | [] => Nat.le_refl _
  | d :: r => by
    have h1 := bulk_pos d
    have h2 := bulk_len r
    simp only [Rows.uptoBulkAll, List.length_cons]
    omega

/-- A slice's elements count in its bulk. -/
theorem bulk_slice {H : Type} {n : Nat} {d : DataW H} (h : n = 0 ∨ ∃ el sp, d = .slice el sp ∧ n ≤ el.length + sp.length) : n ≤ Rows.uptoBulk d := by
  rcases h with h | ⟨el, sp, rfl, h⟩
  · omega
  · have h1 := bulk_len el
    have h2 := bulk_len sp
    simp only [Rows.uptoBulk]
    omega

section
variable {H : Type} {enc : TypeId × Value → H} {W : World} {base : Nat} {spare : Nat → Bool} {held : Bool}

theorem trod_one_wf {t : TypeId} {k : IntKind} {fuel : Nat} {cs : List Value} {x : Option (DataW H × List MemPlace)} (ht : Try.prog.underlying t = some (.int k)) (hx : x.isSome = true) (h : DataW.trod enc Try.prog W base spare held fuel t cs = x) : ∃ n, cs = [.int k n] ∧ (Lit.int k n).wf = true := by
  obtain ⟨y, rfl⟩ := Option.isSome_iff_exists.1 hx
  obtain ⟨n, h1, _, h2⟩ := DataW.trod_int ht h
  exact ⟨n, h1, h2⟩

set_option maxRecDepth 100000 in
/-- The cells of a call that reads. -/
theorem trod_opr {fuel : Nat} {cs : List Value} {x : DataW H × List MemPlace} (h : DataW.trod enc Try.prog W base spare held fuel 36 cs = some x) : ∃ y : Opr, cs = y.vs ∧ y.Ok := by
  obtain ⟨xs, n, _, _, hlen, hxl, hf⟩ := DataW.trod_struct Try.underlying36 h
  rw [cells_op] at hlen
  have hxl' : xs.length = 6 := hxl
  have c64 : Try.prog.cellsOf 2 = 1 := by kernel_rfl
  have c0 : Try.prog.cellsOf 3 = 1 := by kernel_rfl
  have c16 : Try.prog.cellsOf 22 = 1 := by kernel_rfl
  have c32 : Try.prog.cellsOf 21 = 1 := by kernel_rfl
  have hs : ∀ i, i < 6 → xs[i]?.isSome = true := fun i hi => by rw [List.getElem?_eq_getElem (by omega)]; rfl
  have f0 : DataW.trod enc Try.prog W base spare held n 3 ((cs.drop 0).take 1) = xs[0]? := by have h := hf 0 _ rfl; have h' : DataW.trod enc Try.prog W base spare held n 3 ((cs.drop 0).take (Try.prog.cellsOf 3)) = xs[0]? := h; rwa [c0] at h'
  have f1 : DataW.trod enc Try.prog W base spare held n 2 ((cs.drop 1).take 1) = xs[1]? := by have h := hf 1 _ rfl; have h' : DataW.trod enc Try.prog W base spare held n 2 ((cs.drop 1).take (Try.prog.cellsOf 2)) = xs[1]? := h; rwa [c64] at h'
  have f2 : DataW.trod enc Try.prog W base spare held n 22 ((cs.drop 2).take 1) = xs[2]? := by have h := hf 2 _ rfl; have h' : DataW.trod enc Try.prog W base spare held n 22 ((cs.drop 2).take (Try.prog.cellsOf 22)) = xs[2]? := h; rwa [c16] at h'
  have f3 : DataW.trod enc Try.prog W base spare held n 21 ((cs.drop 3).take 1) = xs[3]? := by have h := hf 3 _ rfl; have h' : DataW.trod enc Try.prog W base spare held n 21 ((cs.drop 3).take (Try.prog.cellsOf 21)) = xs[3]? := h; rwa [c32] at h'
  have f4 : DataW.trod enc Try.prog W base spare held n 3 ((cs.drop 4).take 1) = xs[4]? := by have h := hf 4 _ rfl; have h' : DataW.trod enc Try.prog W base spare held n 3 ((cs.drop 4).take (Try.prog.cellsOf 3)) = xs[4]? := h; rwa [c0] at h'
  have f5 : DataW.trod enc Try.prog W base spare held n 2 ((cs.drop 5).take 1) = xs[5]? := by have h := hf 5 _ rfl; have h' : DataW.trod enc Try.prog W base spare held n 2 ((cs.drop 5).take (Try.prog.cellsOf 2)) = xs[5]? := h; rwa [c64] at h'
  obtain ⟨n0, g0, w0⟩ := trod_one_wf Try.underlying3 (hs 0 (by omega)) f0
  obtain ⟨n1, g1, w1⟩ := trod_one_wf Try.underlying2 (hs 1 (by omega)) f1
  obtain ⟨n2, g2, w2⟩ := trod_one_wf Try.underlying22 (hs 2 (by omega)) f2
  obtain ⟨n3, g3, w3⟩ := trod_one_wf Try.underlying21 (hs 3 (by omega)) f3
  obtain ⟨n4, g4, w4⟩ := trod_one_wf Try.underlying3 (hs 4 (by omega)) f4
  obtain ⟨n5, g5, w5⟩ := trod_one_wf Try.underlying2 (hs 5 (by omega)) f5
  refine ⟨⟨n0, n1, n2, n3, n4, n5⟩, ?_, ⟨wf_i64 w1, wf_i16 w2, wf_i32 w3, (wf_i64 w5).2⟩⟩
  have hcs : cs = (cs.drop 0).take 1 ++ ((cs.drop 1).take 1 ++ ((cs.drop 2).take 1 ++ ((cs.drop 3).take 1 ++ ((cs.drop 4).take 1 ++ (cs.drop 5).take 1)))) := by
    match cs, hlen with
    | [a0, a1, a2, a3, a4, a5], _ => rfl
  rw [hcs, g0, g1, g2, g3, g4, g5]
  rfl

set_option maxRecDepth 100000 in
theorem open_oprs {v : Value} {d : DataW H} {p : List MemPlace} (hv : Value.okWide Try.prog W .any base 33 v) (h : DataW.Trod enc Try.prog W 0 spare held 33 v d p) :
    ∃ (A : Option Addr) (c : Nat) (xs : List Opr), v = .slice A xs.length c ∧ ORow W A xs ∧ (xs.length = 0 ∨ ∃ el sp, d = .slice el sp ∧ xs.length ≤ el.length + sp.length) := by
  obtain ⟨a0, len, cap, rfl⟩ := okWide_slice Try.underlying33 hv
  obtain ⟨fuel, hf⟩ := h
  rcases open_slice Try.underlying33 hf with ⟨hcs, _⟩ | ⟨a, l, c, m, n, D, Pl, hcs, _, hl, hm, hmm, hx, hi⟩
  · simp [Value.cells] at hcs
    obtain ⟨rfl, rfl, rfl⟩ := hcs
    exact ⟨none, 0, [], rfl, fun h => absurd h (by decide), .inl rfl⟩
  · simp [Value.cells] at hcs
    obtain ⟨rfl, rfl, rfl⟩ := hcs
    have hlm : len ≤ m := by rw [hmm]; split <;> omega
    rw [cells_op] at hi
    have key : ∀ i, i < len → ∃ y : Opr, (∀ j u, y.vs[j]? = some u → W.cell? ((a.add (i * 6)).add j) = some u) ∧ y.Ok := fun i hil => by
      obtain ⟨cs', hc, ht⟩ := hi i (by omega)
      obtain ⟨y, rfl, hM⟩ := trod_opr ht
      obtain ⟨_, _, hat⟩ := World.cells?_some hc
      refine ⟨y, fun j u hu => ?_, hM⟩
      have hj : j < 6 := by
        have := (List.getElem?_eq_some_iff.1 hu).1
        simpa [Opr.vs] using this
      rw [hat j hj, hu]
    obtain ⟨E, hE⟩ : ∃ E : Nat → Opr, ∀ i, i < len → (∀ j u, (E i).vs[j]? = some u → W.cell? ((a.add (i * 6)).add j) = some u) ∧ (E i).Ok :=
      ⟨fun i => if h : i < len then (key i h).choose else ⟨0, 0, 0, 0, 0, 0⟩, fun i hil => by simp only [hil, dif_pos]; exact (key i hil).choose_spec⟩
    refine ⟨some a, cap, (List.range len).map E, by simp, fun hn => ?_, .inr ?_⟩
    · have hn' : 0 < len := by simpa using hn
      obtain ⟨b, o, sp⟩ := a
      have h00 := (hE 0 hn').1 0 _ rfl
      have hspot : sp = none := by simpa [Addr.add] using World.cell?_spot h00
      subst hspot
      have hlt := World.block_lt_of_cell? W _ h00
      refine ⟨b, o, rfl, by simpa [Addr.add] using hlt, fun i e he => ?_⟩
      have hil : i < len := by
        have := (List.getElem?_eq_some_iff.1 he).1
        simpa using this
      simp [hil] at he
      subst he
      have k := (hE i hil).1
      simp only [add_plain] at k
      exact ⟨k, (hE i hil).2⟩
    · simp only [Prod.mk.injEq] at hx
      exact ⟨_, _, hx.1, by simp⟩
end
end Go.Proofs.Ytnooekflmjebiaa
