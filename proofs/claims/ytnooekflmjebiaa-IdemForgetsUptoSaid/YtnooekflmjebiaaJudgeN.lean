/- The walk of Judge of a producer that is not known. -/
import Derived.RangeFuncNested
import Derived.Test.YtnooekflmjebiaaBackward
namespace Go.Proofs.Ytnooekflmjebiaa
open Go Go.RowKit Go.Shelf
set_option linter.unusedVariables false

attribute [local go_sem] Oper.semAt_some

theorem look_run (w : World) (b n : Nat) (f : Int → Option Value) (h : Mp w b n f) (p : Int) (hp : wf64 p) :
    (Instr.lookup 54 (.map (some b)) (.int .i64 p) true).run Try.prog w = .ok (.tuple #[(f p).getD zmem, .bool (f p).isSome]) w := by
  obtain ⟨D, hD, hv⟩ := h
  obtain ⟨v, ps, hrun, h⟩ := hD.look_ok keyed Try.underlying54 (zeroE w) (zd := .held zmem) (zp := []) rfl (hkey hp)
  have h2 := (hv p zmem).2
  have h1 := (hv p zmem).1
  rw [h2] at h
  unfold raw at h
  simp only [Option.some.injEq, Prod.mk.injEq, DataW.held.injEq] at h
  rw [hrun, h.1, h1]

/-- The five boxes that Judge lays first. -/
def jw (w : World) (s c : Int) : World := ((((w.alloc (.cells #[.int .i32 s] 21)).alloc (.cells #[.int .i64 c] 3)).alloc (.cells #[.int .i64 0] 2)).alloc (.cells #[.bool false] 4)).alloc (.cells #[.int .i64 0] 28)

theorem jw_size (w : World) (s c : Int) : (jw w s c).heap.size = w.heap.size + 1 + 1 + 1 + 1 + 1 := by simp [jw]
theorem cell_new (w : World) (v : Value) (T : TypeId) : (w.alloc (.cells #[v] T)).cell? ⟨w.heap.size, 0, none⟩ = some v := by
  rw [cell_of_row _ w.heap.size 0 _ _ _ (heap_alloc_new w _)]; rfl
theorem cell_on (w : World) (o : Obj) (b i : Nat) (v : Value) (h : w.cell? ⟨b, i, none⟩ = some v) : (w.alloc o).cell? ⟨b, i, none⟩ = some v :=
  (((Below.refl w.heap.size w).alloc (Nat.le_refl _) o).cell (p := ⟨b, i, none⟩) (World.block_lt_of_cell? w _ h)).trans h
/-- The three results' cells, behind one block more. -/
theorem box_at5 (w : World) (s c : Int) (o : Obj) : ((jw w s c).alloc o).cell? ⟨w.heap.size + 1 + 1, 0, none⟩ = some (.int .i64 0) ∧ ((jw w s c).alloc o).cell? ⟨w.heap.size + 1 + 1 + 1, 0, none⟩ = some (.bool false) ∧
    ((jw w s c).alloc o).cell? ⟨w.heap.size + 1 + 1 + 1 + 1, 0, none⟩ = some (.int .i64 0) := by
  unfold jw
  refine ⟨cell_on _ _ _ _ _ (cell_on _ _ _ _ _ (cell_on _ _ _ _ _ ?_)), cell_on _ _ _ _ _ (cell_on _ _ _ _ _ ?_), cell_on _ _ _ _ _ ?_⟩
  · have := cell_new ((w.alloc (.cells #[.int .i32 s] 21)).alloc (.cells #[.int .i64 c] 3)) (.int .i64 0) 2
    simpa using this
  · have := cell_new (((w.alloc (.cells #[.int .i32 s] 21)).alloc (.cells #[.int .i64 c] 3)).alloc (.cells #[.int .i64 0] 2)) (.bool false) 4
    simpa using this
  · have := cell_new ((((w.alloc (.cells #[.int .i32 s] 21)).alloc (.cells #[.int .i64 c] 3)).alloc (.cells #[.int .i64 0] 2)).alloc (.cells #[.bool false] 4)) (.int .i64 0) 28
    simpa using this

theorem jw_below (w : World) (s c : Int) : Below w.heap.size w (jw w s c) := by
  unfold jw
  exact (((((Below.refl w.heap.size w).alloc (Nat.le_refl _) _).alloc (by simp) _).alloc (by simp; omega) _).alloc (by simp; omega) _).alloc (by simp; omega) _

set_option maxRecDepth 100000 in
set_option maxHeartbeats 1000000 in
theorem judge_none (t b k : Nat) (f : Int → Option Value) (p e s c : Int) (w : World) (hT : TB w t b k f) (hp : wf64 p) (hp0 : 0 ≤ p) (hbad : badI p e s c = false) (hf : f p = none) :
    Calls Try.prog 9 #[.pointer (some ⟨t, 0, none⟩), .int .i64 p, .int .i16 e, .int .i32 s, .int .i64 c] w fun r w' =>
      r = .returned (.tuple #[.int .i64 0, .bool false, .int .i64 0]) ∧ Below w.heap.size w w' := by
  refine (callsIn_wide (n := 6)).1 ?_
  have HBAD := Lib.hid hbad
  have hlt := hT.lt
  have hBJ : Below w.heap.size w (jw w s c) := by
    unfold jw
    exact (((((Below.refl w.heap.size w).alloc (Nat.le_refl _) _).alloc (by simp) _).alloc (by simp; omega) _).alloc (by simp; omega) _).alloc (by simp; omega) _
  have hrun := look_run (jw w s c) b k f (hT.mp.kept (hBJ.block b hlt.2)) p hp
  rw [hf] at hrun
  have c0 := (hBJ.cell (p := ⟨t, 0, none⟩) hlt.1).trans hT.c
  simp only [Option.getD_none, Option.isSome_none, zmem] at hrun
  unfold jw at hrun c0
  clear hbad hf
  have g1 : Fence.wide.fn 18 := trivial
  have g2 : Fence.wide.fn 19 := trivial
  have g3 : Fence.wide.fn 20 := trivial
  refine callsIn_of_wp Try.func9 rfl trivial ?_ rfl
  simp only [Try.ntmps9, List.size_toArray, List.length_cons, List.length_nil, Nat.reduceAdd, Nat.reduceSub, Array.replicate_succ, Array.replicate_zero, List.push_toArray, List.append_toArray, List.nil_append, List.cons_append]
  gi_wp2_with (gi_at_call 18; refine (callsIn_wide.2 (bad_any _ _ _ _ _)).mono ?_; rintro r w' ⟨rfl, rfl⟩; rw [HBAD.out])
  have q0 := box_at5 w s c (.cells #[.int .i16 0, .slice none 0 0] 60)
  obtain ⟨q1, q2, q3⟩ := q0
  unfold jw at q1 q2 q3 hBJ
  refine bodyPost_ret (v := .tuple #[.int .i64 0, .bool false, .int .i64 0]) ?_ rfl ⟨rfl, hBJ.alloc (by simp; omega) _⟩
  simp [results, Try.f9, go_sem, q1, q2, q3]
end Go.Proofs.Ytnooekflmjebiaa
