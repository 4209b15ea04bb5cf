/- slices.DeleteFunc at the remembered batches, with Forget's second closure. -/
import Derived.Shelf.SlicesE.DeleteFunc
import Derived.Test.YtnooekflmjebiaaDel
namespace Go.Proofs
open Go Go.RowKit Go.Shelf
namespace Ytnooekflmjebiaa
set_option linter.unusedVariables false

/-- A block of batches at its head. -/
structure Row (w : World) (g : Nat) (L : List Mk) : Prop where
  ty : ∃ cs, w.heap[g]? = some (.cells cs 66 (0, 0))
  at_ : ∀ j k, L[j]? = some k → MkAt w g (j * 3) k
theorem Row.below {w w' : World} {g : Nat} {L : List Mk} (h : Row w g L) (hb : Below w.heap.size w w') : Row w' g L := by
  obtain ⟨⟨cs, hc⟩, hat⟩ := h
  have hl : g < w.heap.size := (Array.getElem?_eq_some_iff.1 hc).1
  exact ⟨⟨cs, (hb.block g hl).trans hc⟩, fun j k hj => (hat j k hj).below hb hl⟩
theorem Row.lt {w : World} {g : Nat} {L : List Mk} (h : Row w g L) : g < w.heap.size := by obtain ⟨cs, hc⟩ := h.ty; exact (Array.getElem?_eq_some_iff.1 hc).1
theorem Row.frozen {w : World} {g : Nat} {L : List Mk} (h : Row w g L) (o : Nat) : w.frozen? ⟨g, o, none⟩ = false := by obtain ⟨cs, hc⟩ := h.ty; simp [World.frozen?, hc]
theorem ty_set {w : World} {g : Nat} (h : ∃ cs, w.heap[g]? = some (.cells cs 66 (0, 0))) (a : Addr) (v : Value) : ∃ cs, (w.setCell a v).heap[g]? = some (.cells cs 66 (0, 0)) := by
  obtain ⟨cs, hc⟩ := h
  simp only [World.setCell, Array.getElem?_modify, hc]
  split <;> simp
/-- One batch of the row written. -/
theorem Row.set {w : World} {g : Nat} {L : List Mk} (h : Row w g L) (i : Nat) (hi : i < L.length) (m : Mk) :
    Row (((w.setCell ⟨g, i * 3, none⟩ (.int .i32 m.seq)).setCell ⟨g, i * 3 + 1, none⟩ (.int .i64 m.count)).setCell ⟨g, i * 3 + 2, none⟩ (.int .i64 m.base)) g (L.set i m) := by
  refine ⟨ty_set (ty_set (ty_set h.ty _ _) _ _) _ _, fun j k hj => ?_⟩
  by_cases hji : j = i
  · subst hji
    rw [List.getElem?_set_self hi] at hj
    obtain rfl := Option.some.inj hj
    obtain ⟨k, hk⟩ : ∃ k, L[j]? = some k := ⟨_, List.getElem?_eq_getElem hi⟩
    have hat := h.at_ j k hk
    refine ⟨?_, ?_, ?_⟩
    · rw [World.cell?_setCell_other _ _ _ _ (by simp), World.cell?_setCell_other _ _ _ _ (by simp), World.cell?_setCell_same _ _ _ hat.c0]
    · rw [World.cell?_setCell_other _ _ _ _ (by simp)]
      exact World.cell?_setCell_same _ _ _ ((World.cell?_setCell_other _ _ _ _ (by simp)).trans hat.c1)
    · exact World.cell?_setCell_same _ _ _ ((World.cell?_setCell_other _ _ _ _ (by simp)).trans ((World.cell?_setCell_other _ _ _ _ (by simp)).trans hat.c2))
  · rw [List.getElem?_set_ne (fun e => hji e.symm)] at hj
    have hat := h.at_ j k hj
    have f : ∀ (o c : Nat), o < 3 → c < 3 → i * 3 + c ≠ j * 3 + o := fun o c ho hc e => by omega
    refine ⟨?_, ?_, ?_⟩
    · rw [World.cell?_setCell_other _ _ _ _ (by intro e; injection e with _ e; exact f 0 2 (by omega) (by omega) e), World.cell?_setCell_other _ _ _ _ (by intro e; injection e with _ e; exact f 0 1 (by omega) (by omega) e), World.cell?_setCell_other _ _ _ _ (by intro e; injection e with _ e; exact f 0 0 (by omega) (by omega) e)]
      exact hat.c0
    · rw [World.cell?_setCell_other _ _ _ _ (by intro e; injection e with _ e; exact f 1 2 (by omega) (by omega) e), World.cell?_setCell_other _ _ _ _ (by intro e; injection e with _ e; exact f 1 1 (by omega) (by omega) e), World.cell?_setCell_other _ _ _ _ (by intro e; injection e with _ e; exact f 1 0 (by omega) (by omega) e)]
      exact hat.c1
    · rw [World.cell?_setCell_other _ _ _ _ (by intro e; injection e with _ e; exact f 2 2 (by omega) (by omega) e), World.cell?_setCell_other _ _ _ _ (by intro e; injection e with _ e; exact f 2 1 (by omega) (by omega) e), World.cell?_setCell_other _ _ _ _ (by intro e; injection e with _ e; exact f 2 0 (by omega) (by omega) e)]
      exact hat.c2

/-- Of the first j batches the kept ones stand at the front. -/
structure KInv (p : Mk → Bool) (ms : List Mk) (j i : Nat) (L : List Mk) : Prop where
  len : L.length = ms.length
  lt : i < j
  front : L.take i = (ms.take j).filter p
  back : L.drop j = ms.drop j
theorem KInv.start {p : Mk → Bool} {ms : List Mk} {k : Nat} (hk : k < ms.length) (h0 : ∀ j x, j < k → ms[j]? = some x → p x = true) (h1 : ∀ x, ms[k]? = some x → p x = false) : KInv p ms (k + 1) k ms := by
  refine ⟨rfl, Nat.lt_succ_self k, ?_, rfl⟩
  obtain ⟨x, hx⟩ : ∃ x, ms[k]? = some x := ⟨_, List.getElem?_eq_getElem hk⟩
  rw [List.take_add_one, hx, List.filter_append]
  simp only [Option.toList, List.filter_cons, h1 x hx, List.filter_nil]
  rw [show (if false = true then x :: ([] : List Mk) else []) = [] from rfl, List.append_nil]
  exact (List.filter_eq_self.2 fun y hy => by
    obtain ⟨i, hi, rfl⟩ := List.mem_iff_getElem.1 hy
    have hi' : i < k ∧ i < ms.length := by have h := hi; rw [List.length_take] at h; omega
    refine h0 i _ hi'.1 ?_
    rw [List.getElem_take, List.getElem?_eq_getElem hi'.2]).symm
theorem KInv.get {p : Mk → Bool} {ms L : List Mk} {j i : Nat} (h : KInv p ms j i L) : L[j]? = ms[j]? := by
  have h1 : (L.drop j)[0]? = (ms.drop j)[0]? := by rw [h.back]
  simpa using h1
theorem KInv.keep {p : Mk → Bool} {ms L : List Mk} {j i : Nat} {m : Mk} (h : KInv p ms j i L) (hm : ms[j]? = some m) (hp : p m = true) : KInv p ms (j + 1) (i + 1) (L.set i m) := by
  have hj := (List.getElem?_eq_some_iff.1 hm).1
  have hlt := h.lt
  refine ⟨by rw [List.length_set]; exact h.len, by omega, ?_, ?_⟩
  · rw [List.take_add_one, List.getElem?_set_self (by rw [h.len]; omega), List.take_add_one, hm, List.filter_append, List.take_set_of_le (Nat.le_refl i), h.front]
    simp [hp]
  · rw [List.drop_set_of_lt (by omega)]
    have := congrArg (List.drop 1) h.back
    simpa [List.drop_drop, Nat.add_comm] using this
theorem KInv.skip {p : Mk → Bool} {ms L : List Mk} {j i : Nat} {m : Mk} (h : KInv p ms j i L) (hm : ms[j]? = some m) (hp : p m = false) : KInv p ms (j + 1) i L := by
  have hlt := h.lt
  refine ⟨h.len, by omega, ?_, ?_⟩
  · rw [List.take_add_one, hm, List.filter_append, h.front]
    simp [hp]
  · have := congrArg (List.drop 1) h.back
    simpa [List.drop_drop, Nat.add_comm] using this

/-- What the search gives. -/
theorem idx_spec (p : Mk → Bool) (ms : List Mk) : (Lib.idxBy (fun _ y => p y) ms default = -1 ∧ ∀ m ∈ ms, p m = false) ∨
    ∃ k : Nat, k < ms.length ∧ Lib.idxBy (fun _ y => p y) ms default = (k : Int) ∧ (∀ x, ms[k]? = some x → p x = true) ∧ ∀ j x, j < k → ms[j]? = some x → p x = false := by
  have tl : ∀ (j : Nat) (x : Mk), ms[j]? = some x → ms[j]! = x := fun j x hx => by
    have hj := (List.getElem?_eq_some_iff.1 hx)
    rw [getElem!_pos ms j hj.1, hj.2]
  rcases idxByFrom_spec (fun _ y => p y) default ms 0 with ⟨e1, hall⟩ | ⟨k, hk, e1, ht, hall⟩
  · refine .inl ⟨e1, fun m hm => ?_⟩
    obtain ⟨j, hj, rfl⟩ := List.mem_iff_getElem.1 hm
    have := hall j hj
    rwa [tl j _ (List.getElem?_eq_getElem hj)] at this
  · refine .inr ⟨k, hk, by unfold Lib.idxBy; rw [e1]; simp, fun x hx => ?_, fun j x hj hx => ?_⟩
    · rw [← tl k x hx]; exact ht
    · rw [← tl j x hx]; exact hall j hj

/-- 'clear(s)' at batches: nothing but the cleared cells turns. -/
theorem clear_run (w : World) (ty g o n c : Nat) (hn : 0 < n) (hc : ∀ j, j < n * 3 → (w.cell? ⟨g, o + j, none⟩).isSome = true) (hf : ∀ j, j < n * 3 → w.frozen? ⟨g, o + j, none⟩ = false) :
    ∃ zs : List Value, zs.length = n * 3 ∧ (Builtin.clear_ #[58] ty #[.slice (some ⟨g, o, none⟩) n c]).run Try.prog w = .ok (.tuple #[]) (w.setCells g o zs) := by
  have hz : ∀ w, (zeroValue 66).run Try.prog w = .ok (.agg #[.int .i32 0, .int .i64 0, .int .i64 0]) w := fun w => by kernel_rfl
  have hzl : (Builtin.zeroCells (Value.agg #[.int .i32 0, .int .i64 0, .int .i64 0]).cells n).toList.length = n * 3 := by
    rw [Array.length_toList, size_zeroCells]
    rfl
  have h1 : ∀ v ∈ (Builtin.zeroCells (Value.agg #[.int .i32 0, .int .i64 0, .int .i64 0]).cells n).toList, v.oneCell' = true := by
    intro v hv
    simp [Builtin.zeroCells] at hv
    obtain ⟨j, hj, rfl⟩ := hv
    have : j % 3 = 0 ∨ j % 3 = 1 ∨ j % 3 = 2 := by omega
    rcases this with h | h | h <;> simp [Value.cells, h] <;> rfl
  have hst := run_storeCells_cells (P := Try.prog) g o _ 0 w (fun j hj => by rw [hzl] at hj; exact hc j hj) (fun j hj => by rw [hzl] at hj; exact hf j hj) h1
  refine ⟨_, hzl, ?_⟩
  obtain ⟨m, rfl⟩ : ∃ m, n = m + 1 := ⟨n - 1, by omega⟩
  simp only [Nat.add_zero] at hst
  simp [Builtin.clear_, run_underlying Try.underlying58, hz, hst]
end Ytnooekflmjebiaa
end Go.Proofs
