/- The walk of Judge where it leaves ahead of the loop. -/
import Derived.Test.YtnooekflmjebiaaJudge
namespace Go.Proofs.Ytnooekflmjebiaa
open Go Go.RowKit Go.Shelf
set_option linter.unusedVariables false

attribute [local go_sem] Oper.semAt_some

/-- A way out of Judge ahead of the loop; z: the error's number. -/
def early (f : Int → Option Value) (p ep s c z : Int) : Prop :=
  (p = -1 ∧ badI p ep s c = false ∧ f p = none ∧ z = 0) ∨
  (p ≠ -1 ∧ badI p ep s c = false ∧ ∃ e A n cap, f p = some (.agg #[.int .i16 e, .slice A n cap]) ∧ ((ep < e ∧ z = 210) ∨ (e < ep ∧ s ≠ 0 ∧ z = 211) ∨ (e < ep ∧ s = 0 ∧ z = 0)))

/-- The five boxes, an error's number in the last. -/
def jwz (w : World) (s c z : Int) : World := ((((w.alloc (.cells #[.int .i32 s] 21)).alloc (.cells #[.int .i64 c] 3)).alloc (.cells #[.int .i64 0] 2)).alloc (.cells #[.bool false] 4)).alloc (.cells #[.int .i64 z] 28)
theorem jwz_size (w : World) (s c z : Int) : (jwz w s c z).heap.size = w.heap.size + 1 + 1 + 1 + 1 + 1 := by simp [jwz]
theorem jwz_below (w : World) (s c z : Int) : Below w.heap.size w (jwz w s c z) := by
  unfold jwz
  exact (((((Below.refl w.heap.size w).alloc (Nat.le_refl _) _).alloc (by simp) _).alloc (by simp; omega) _).alloc (by simp; omega) _).alloc (by simp; omega) _
theorem jwz_box (w : World) (s c z : Int) : (jwz w s c z).cell? ⟨w.heap.size + 1 + 1, 0, none⟩ = some (.int .i64 0) ∧ (jwz w s c z).cell? ⟨w.heap.size + 1 + 1 + 1, 0, none⟩ = some (.bool false) ∧
    (jwz w s c z).cell? ⟨w.heap.size + 1 + 1 + 1 + 1, 0, none⟩ = some (.int .i64 z) := by
  unfold jwz
  refine ⟨cell_on _ _ _ _ _ (cell_on _ _ _ _ _ ?_), cell_on _ _ _ _ _ ?_, ?_⟩
  · have := cell_new ((w.alloc (.cells #[.int .i32 s] 21)).alloc (.cells #[.int .i64 c] 3)) (.int .i64 0) 2
    simpa using this
  · have := cell_new (((w.alloc (.cells #[.int .i32 s] 21)).alloc (.cells #[.int .i64 c] 3)).alloc (.cells #[.int .i64 0] 2)) (.bool false) 4
    simpa using this
  · have := cell_new ((((w.alloc (.cells #[.int .i32 s] 21)).alloc (.cells #[.int .i64 c] 3)).alloc (.cells #[.int .i64 0] 2)).alloc (.cells #[.bool false] 4)) (.int .i64 z) 28
    simpa using this
theorem jwz_box2 (w : World) (s c z : Int) (o : Obj) : ((jwz w s c z).alloc o).cell? ⟨w.heap.size + 1 + 1, 0, none⟩ = some (.int .i64 0) ∧ ((jwz w s c z).alloc o).cell? ⟨w.heap.size + 1 + 1 + 1, 0, none⟩ = some (.bool false) ∧
    ((jwz w s c z).alloc o).cell? ⟨w.heap.size + 1 + 1 + 1 + 1, 0, none⟩ = some (.int .i64 z) :=
  ⟨cell_on _ _ _ _ _ (jwz_box w s c z).1, cell_on _ _ _ _ _ (jwz_box w s c z).2.1, cell_on _ _ _ _ _ (jwz_box w s c z).2.2⟩

set_option maxRecDepth 100000 in
set_option maxHeartbeats 4000000 in
theorem judge_bad (t b k : Nat) (f : Int → Option Value) (p ep s c : Int) (w : World) (hbad : badI p ep s c = true) :
    Calls Try.prog 9 #[.pointer (some ⟨t, 0, none⟩), .int .i64 p, .int .i16 ep, .int .i32 s, .int .i64 c] w (jpost (0, false, 3) w) := by
  refine (callsIn_wide (n := 6)).1 ?_
  have HBAD := Lib.hid hbad
  have hBJ : Below w.heap.size w (jw w s c) := jw_below w s c
  clear hbad
  have g1 : Fence.wide.fn 18 := trivial
  refine callsIn_of_wp Try.func9 rfl trivial ?_ rfl
  simp only [Try.ntmps9, List.size_toArray, List.length_cons, List.length_nil, Nat.reduceAdd, Nat.reduceSub, Array.replicate_succ, Array.replicate_zero, List.push_toArray, List.append_toArray, List.nil_append, List.cons_append]
  gi_wp2_with (gi_at_call 18; refine (callsIn_wide.2 (bad_any _ _ _ _ _)).mono ?_; rintro r w' ⟨rfl, rfl⟩; rw [HBAD.out])
  obtain ⟨q1, q2, q3⟩ := jwz_box w s c 3
  have hB := jwz_below w s c 3
  unfold jwz at q1 q2 q3 hB
  refine bodyPost_ret (v := .tuple #[.int .i64 0, .bool false, .int .i64 3]) ?_ rfl ⟨rfl, hB⟩
  simp [results, Try.f9, go_sem, q1, q2, q3]

set_option maxRecDepth 100000 in
set_option maxHeartbeats 4000000 in
theorem judge_early (t b k : Nat) (f : Int → Option Value) (p ep s c z : Int) (w : World) (hT : TB w t b k f) (hp : wf64 p) (h : early f p ep s c z) :
    Calls Try.prog 9 #[.pointer (some ⟨t, 0, none⟩), .int .i64 p, .int .i16 ep, .int .i32 s, .int .i64 c] w (jpost (0, false, z) w) := by
  refine (callsIn_wide (n := 6)).1 ?_
  have hlt := hT.lt
  have hBJ : Below w.heap.size w (jw w s c) := jw_below w s c
  have hrun := look_run (jw w s c) b k f (hT.mp.kept (hBJ.block b hlt.2)) p hp
  have c0 := (hBJ.cell (p := ⟨t, 0, none⟩) hlt.1).trans hT.c
  unfold jw at hrun c0
  have g1 : Fence.wide.fn 18 := trivial
  have g2 : Fence.wide.fn 19 := trivial
  have g3 : Fence.wide.fn 20 := trivial
  rcases h with ⟨rfl, hbad, hf, rfl⟩ | ⟨hp1, hbad, e, A, n, cap, hf, ⟨h1, rfl⟩ | ⟨h1, h2, rfl⟩ | ⟨h1, rfl, rfl⟩⟩
  all_goals
    rw [hf] at hrun
    have HBAD := Lib.hid hbad
    simp only [Option.getD_some, Option.isSome_some, Option.getD_none, Option.isSome_none, zmem] at hrun
    clear hbad hf
    refine callsIn_of_wp Try.func9 rfl trivial ?_ rfl
    simp only [Try.ntmps9, List.size_toArray, List.length_cons, List.length_nil, Nat.reduceAdd, Nat.reduceSub, Array.replicate_succ, Array.replicate_zero, List.push_toArray, List.append_toArray, List.nil_append, List.cons_append]
    gi_wp2_with (gi_at_call 18; refine (callsIn_wide.2 (bad_any _ _ _ _ _)).mono ?_; rintro r w' ⟨rfl, rfl⟩; rw [HBAD.out])
    have ends : ∀ (s z : Int) (o : Obj), ((jwz w s c z).alloc o).cell? ⟨w.heap.size + 1 + 1, 0, none⟩ = some (.int .i64 0) ∧ ((jwz w s c z).alloc o).cell? ⟨w.heap.size + 1 + 1 + 1, 0, none⟩ = some (.bool false) ∧
        ((jwz w s c z).alloc o).cell? ⟨w.heap.size + 1 + 1 + 1 + 1, 0, none⟩ = some (.int .i64 z) ∧ Below w.heap.size w ((jwz w s c z).alloc o) := fun s z o =>
      ⟨(jwz_box2 w s c z o).1, (jwz_box2 w s c z o).2.1, (jwz_box2 w s c z o).2.2, (jwz_below w s c z).alloc (by rw [jwz_size]; omega) _⟩
    unfold jwz at ends
    refine bodyPost_ret (v := .tuple #[.int .i64 0, .bool false, _]) ?_ rfl ⟨rfl, (ends _ _ _).2.2.2⟩
    simp [results, Try.f9, go_sem, (ends _ _ _).1, (ends _ _ _).2.1, (ends _ _ _).2.2.1]
end Go.Proofs.Ytnooekflmjebiaa
