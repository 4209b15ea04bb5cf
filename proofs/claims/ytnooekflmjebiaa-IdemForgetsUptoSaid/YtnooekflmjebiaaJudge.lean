/- The walk of Judge within the remembered epoch. -/
import Derived.RangeFuncNested
import Derived.Stop.RegionWithIn
import Derived.Test.YtnooekflmjebiaaJudgeN
namespace Go.Proofs.Ytnooekflmjebiaa
open Go Go.RowKit Go.Shelf
set_option linter.unusedVariables false

attribute [local go_sem] Oper.semAt_some

/-- A block of cells stays where the library's own marks turn. -/
theorem cells_stay {A B : World} {row : Option Nat} {b : Nat} {cs : Array Value} {T : TypeId} {fr : Nat × Nat} (h : A.heap[b]? = some (.cells cs T fr)) (hg : A.grownBy B row) (hr : ∀ r, row = some r → ∃ o : Obj, A.heap[r]? = some o ∧ o.isCells = false) : B.heap[b]? = some (.cells cs T fr) := by
  refine (hg.block b (Array.getElem?_eq_some_iff.1 h).1 (fun e => ?_)).trans h
  obtain ⟨o, h1, h2⟩ := hr b e.symm
  rw [h] at h1
  injection h1 with h1
  subst h1
  cases h2

/-- Judge's boxes ahead of the loop. -/
structure JI (w W : World) (e s c : Int) (sl : Value) : Prop where
  b0 : W.heap[w.heap.size]? = some (.cells #[.int .i32 s] 21 (0, 0))
  b1 : W.heap[w.heap.size + 1]? = some (.cells #[.int .i64 c] 3 (0, 0))
  b2 : W.heap[w.heap.size + 1 + 1]? = some (.cells #[.int .i64 0] 2 (0, 0))
  b3 : W.heap[w.heap.size + 1 + 1 + 1]? = some (.cells #[.bool false] 4 (0, 0))
  b4 : W.heap[w.heap.size + 1 + 1 + 1 + 1]? = some (.cells #[.int .i64 0] 28 (0, 0))
  b5 : W.heap[w.heap.size + 1 + 1 + 1 + 1 + 1]? = some (.cells #[.int .i16 e, sl] 60 (0, 0))
theorem JI.stay {w A B : World} {e s c : Int} {sl : Value} {row : Option Nat} (h : JI w A e s c sl) (hg : A.grownBy B row) (hr : ∀ r, row = some r → ∃ o : Obj, A.heap[r]? = some o ∧ o.isCells = false) : JI w B e s c sl :=
  ⟨cells_stay h.b0 hg hr, cells_stay h.b1 hg hr, cells_stay h.b2 hg hr, cells_stay h.b3 hg hr, cells_stay h.b4 hg hr, cells_stay h.b5 hg hr⟩
theorem JI.alloc {w A : World} {e s c : Int} {sl : Value} (h : JI w A e s c sl) (o : Obj) : JI w (A.alloc o) e s c sl := h.stay (World.grownBy_alloc A o none) (fun r e => by cases e)
theorem ji_new (w : World) (e s c : Int) (sl : Value) : JI w ((jw w s c).alloc (.cells #[.int .i16 e, sl] 60)) e s c sl := by
  have on : ∀ (W : World) (o : Obj) (k : Nat) (x : Obj), W.heap[k]? = some x → (W.alloc o).heap[k]? = some x := fun W o k x h =>
    (Below.heap_alloc W o k (Array.getElem?_eq_some_iff.1 h).1).trans h
  have z := jw_size w s c
  refine ⟨on _ _ _ _ ?_, on _ _ _ _ ?_, on _ _ _ _ ?_, on _ _ _ _ ?_, on _ _ _ _ ?_, ?_⟩
  · unfold jw; exact on _ _ _ _ (on _ _ _ _ (on _ _ _ _ (on _ _ _ _ (heap_alloc_new w _))))
  · unfold jw; have h := heap_alloc_new (w.alloc (.cells #[.int .i32 s] 21)) (.cells #[.int .i64 c] 3); rw [World.size_alloc] at h; exact on _ _ _ _ (on _ _ _ _ (on _ _ _ _ h))
  · unfold jw; have h := heap_alloc_new ((w.alloc (.cells #[.int .i32 s] 21)).alloc (.cells #[.int .i64 c] 3)) (.cells #[.int .i64 0] 2); rw [World.size_alloc, World.size_alloc] at h; exact on _ _ _ _ (on _ _ _ _ h)
  · unfold jw; have h := heap_alloc_new (((w.alloc (.cells #[.int .i32 s] 21)).alloc (.cells #[.int .i64 c] 3)).alloc (.cells #[.int .i64 0] 2)) (.cells #[.bool false] 4); rw [World.size_alloc, World.size_alloc, World.size_alloc] at h; exact on _ _ _ _ h
  · unfold jw; have h := heap_alloc_new ((((w.alloc (.cells #[.int .i32 s] 21)).alloc (.cells #[.int .i64 c] 3)).alloc (.cells #[.int .i64 0] 2)).alloc (.cells #[.bool false] 4)) (.cells #[.int .i64 0] 28); rw [World.size_alloc, World.size_alloc, World.size_alloc, World.size_alloc] at h; exact h
  · have h := heap_alloc_new (jw w s c) (.cells #[.int .i16 e, sl] 60); rw [z] at h; exact h
/-- Judge's boxes of the results. -/
structure JR (w W : World) (x : Int) (y : Bool) (z : Int) : Prop where
  b2 : W.heap[w.heap.size + 1 + 1]? = some (.cells #[.int .i64 x] 2 (0, 0))
  b3 : W.heap[w.heap.size + 1 + 1 + 1]? = some (.cells #[.bool y] 4 (0, 0))
  b4 : W.heap[w.heap.size + 1 + 1 + 1 + 1]? = some (.cells #[.int .i64 z] 28 (0, 0))
theorem JR.stay {w A B : World} {x : Int} {y : Bool} {z : Int} {row : Option Nat} (h : JR w A x y z) (hg : A.grownBy B row) (hr : ∀ r, row = some r → ∃ o : Obj, A.heap[r]? = some o ∧ o.isCells = false) : JR w B x y z :=
  ⟨cells_stay h.b2 hg hr, cells_stay h.b3 hg hr, cells_stay h.b4 hg hr⟩

theorem JI.below {w A B : World} {e s c : Int} {sl : Value} (h : JI w A e s c sl) (hb : Below A.heap.size A B) : JI w B e s c sl :=
  have on : ∀ k x, A.heap[k]? = some x → B.heap[k]? = some x := fun k x h => (hb.block k (Array.getElem?_eq_some_iff.1 h).1).trans h
  ⟨on _ _ h.b0, on _ _ h.b1, on _ _ h.b2, on _ _ h.b3, on _ _ h.b4, on _ _ h.b5⟩
theorem JI.cells {w W : World} {e s c : Int} {sl : Value} (hj : JI w W e s c sl) :
    W.cell? ⟨w.heap.size, 0, none⟩ = some (.int .i32 s) ∧ W.cell? ⟨w.heap.size + 1 + 1, 0, none⟩ = some (.int .i64 0) ∧ W.cell? ⟨w.heap.size + 1 + 1 + 1, 0, none⟩ = some (.bool false) ∧
    W.cell? ⟨w.heap.size + 1 + 1 + 1 + 1, 0, none⟩ = some (.int .i64 0) ∧ W.frozen? ⟨w.heap.size + 1 + 1, 0, none⟩ = false ∧ W.frozen? ⟨w.heap.size + 1 + 1 + 1, 0, none⟩ = false ∧ W.frozen? ⟨w.heap.size + 1 + 1 + 1 + 1, 0, none⟩ = false ∧
    W.cell? ⟨w.heap.size + 1 + 1 + 1 + 1 + 1, 1, none⟩ = some sl :=
  ⟨Boxed.cell hj.b0, Boxed.cell hj.b2, Boxed.cell hj.b3, Boxed.cell hj.b4, Boxed.frozen hj.b2, Boxed.frozen hj.b3, Boxed.frozen hj.b4, by rw [cell_of_row _ _ 1 _ _ _ hj.b5]; rfl⟩
theorem jr_put {w W : World} {e s c : Int} {sl : Value} (h : JI w W e s c sl) (x : Int) (y : Bool) (z : Int) :
    JR w (((W.setCell ⟨w.heap.size + 1 + 1, 0, none⟩ (.int .i64 x)).setCell ⟨w.heap.size + 1 + 1 + 1, 0, none⟩ (.bool y)).setCell ⟨w.heap.size + 1 + 1 + 1 + 1, 0, none⟩ (.int .i64 z)) x y z := by
  refine ⟨?_, ?_, ?_⟩
  · rw [setCell_block _ _ _ _ (by dsimp only; omega), setCell_block _ _ _ _ (by dsimp only; omega)]
    exact Boxed.set _ h.b2
  · rw [setCell_block _ _ _ _ (by dsimp only; omega)]
    refine Boxed.set (v := .bool false) _ ?_
    show _ = _
    rw [setCell_block _ _ _ _ (by dsimp only; omega)]
    exact h.b3
  · refine Boxed.set (v := .int .i64 0) _ ?_
    show _ = _
    rw [setCell_block _ _ _ _ (by dsimp only; omega), setCell_block _ _ _ _ (by dsimp only; omega)]
    exact h.b4
theorem jr_block (w W : World) (x : Int) (y : Bool) (z : Int) (D : Nat) (hD : w.heap.size + 1 + 1 + 1 + 1 < D) :
    (((W.setCell ⟨w.heap.size + 1 + 1, 0, none⟩ (.int .i64 x)).setCell ⟨w.heap.size + 1 + 1 + 1, 0, none⟩ (.bool y)).setCell ⟨w.heap.size + 1 + 1 + 1 + 1, 0, none⟩ (.int .i64 z)).heap[D]? = W.heap[D]? := by
  rw [setCell_block _ _ _ _ (by dsimp only; omega), setCell_block _ _ _ _ (by dsimp only; omega), setCell_block _ _ _ _ (by dsimp only; omega)]
theorem jr_below {w W : World} (h : Below w.heap.size w W) (x : Int) (y : Bool) (z : Int) :
    Below w.heap.size w (((W.setCell ⟨w.heap.size + 1 + 1, 0, none⟩ (.int .i64 x)).setCell ⟨w.heap.size + 1 + 1 + 1, 0, none⟩ (.bool y)).setCell ⟨w.heap.size + 1 + 1 + 1 + 1, 0, none⟩ (.int .i64 z)) :=
  ((h.setCell (p := ⟨w.heap.size + 1 + 1, 0, none⟩) (by dsimp only; omega) _).setCell (p := ⟨w.heap.size + 1 + 1 + 1, 0, none⟩) (by dsimp only; omega) _).setCell (p := ⟨w.heap.size + 1 + 1 + 1 + 1, 0, none⟩) (by dsimp only; omega) _

/-- A piece that ends as it should. -/
def onlyNormal (Q : Exit → Act → World → Prop) : Exit → Act → World → Prop := fun x a w => match x with | .normal => Q .normal a w | _ => False
theorem onlyNormal_mk {Q : Exit → Act → World → Prop} {a : Act} {w : World} (h : Q .normal a w) : onlyNormal Q .normal a w := h
theorem wp_normal {P : Program} {c : Code} {Q : Exit → Act → World → Prop} {a : Act} {w : World} (h : c.wp P (onlyNormal Q) a w) : c.wp P Q a w :=
  Code.wp_mono (fun e a w h => by cases e <;> first | exact h | exact h.elim) h

/-- Is it the batch? -/
def hitB (s c : Int) (x : Nat × Mk) : Bool := x.2.seq == s && x.2.count == c

theorem upto_snd (ms : List Mk) (k : Nat) (h : k ≤ ms.length) : (upto (back ms) k).map (·.2) = ms.reverse.take k := by
  apply List.ext_getElem
  · simp [upto, h]
  · intro i h1 h2
    have hi : i < k := by simpa [upto] using h1
    have hl : ms.length - 1 - i < ms.length := by omega
    simp [upto, back, hl]
theorem judge_hit (e s c : Int) (ms : List Mk) {k : Nat} {ini : List (Nat × Mk)} {last : Nat × Mk} (h : upto (back ms) k = ini ++ [last]) (hk : k ≤ ms.length) (h0 : ∀ x ∈ ini, hitB s c x = false) (h1 : hitB s c last = true) :
    judgeM (some (e, ms)) e s c = (last.2.base, true, 0) := by
  have hs := upto_snd ms k hk
  rw [h, List.map_append] at hs
  have hf : ms.reverse.find? (fun m => m.seq == s && m.count == c) = some last.2 := by
    rw [← List.take_append_drop k ms.reverse, ← hs, List.append_assoc, List.find?_append]
    have hn : (ini.map (·.2)).find? (fun m => m.seq == s && m.count == c) = none := by
      rw [List.find?_eq_none]
      intro m hm
      obtain ⟨x, hx, rfl⟩ := List.mem_map.1 hm
      have := h0 x hx
      unfold hitB at this
      rw [this]
      decide
    rw [hn]
    unfold hitB at h1
    simp [h1]
  simp only [judgeM]
  rw [if_neg (by omega), if_neg (by omega), hf]

theorem judge_miss (e s c : Int) (ms : List Mk) {j0 : Nat} {m : Mk} (hl : ms.length = j0 + 1) (hm : ms[j0]? = some m) (h0 : ∀ x ∈ upto (back ms) ms.length, hitB s c x = false) :
    judgeM (some (e, ms)) e s c = (0, false, if m.next = s then 0 else 211) := by
  have hs := upto_snd ms ms.length (Nat.le_refl _)
  rw [List.take_of_length_le (by simp)] at hs
  have hf : ms.reverse.find? (fun m => m.seq == s && m.count == c) = none := by
    rw [← hs, List.find?_eq_none]
    intro k hk
    obtain ⟨x, hx, rfl⟩ := List.mem_map.1 hk
    have := h0 x hx
    unfold hitB at this
    rw [this]
    decide
  have hg : ms.getLast? = some m := by rw [List.getLast?_eq_getElem?, hl]; exact hm
  simp only [judgeM]
  rw [if_neg (by omega), if_neg (by omega), hf, hg]
  by_cases h : m.next = s <;> simp [h]

/-- What Judge hands back. -/
def jpost (x : Int × Bool × Int) (w : World) (r : Ending) (w' : World) : Prop := r = .returned (.tuple #[.int .i64 x.1, .bool x.2.1, .int .i64 x.2.2]) ∧ Below w.heap.size w w'

/-- The frame in the loop. -/
def jact (t b N : Nat) (p e s c : Int) (sl u16 u60 u61 : Value) : Act :=
  { tmps := #[.pointer (some ⟨t, 0, none⟩), .int .i64 p, .int .i16 e, .int .i32 s, .int .i64 c, undef, undef, undef, .pointer (some ⟨N, 0, none⟩), .pointer (some ⟨N + 1, 0, none⟩), .pointer (some ⟨N + 1 + 1, 0, none⟩),
      .pointer (some ⟨N + 1 + 1 + 1, 0, none⟩), .pointer (some ⟨N + 1 + 1 + 1 + 1, 0, none⟩), .pointer (some ⟨N + 1 + 1 + 1 + 1 + 1, 0, none⟩), .bool true, undef, u16, .int .i64 p, .int .i16 e, .int .i32 s, .int .i64 c, .bool false,
      .tuple #[.agg #[.int .i16 e, sl], .bool true], .pointer (some ⟨t, 0, none⟩), .pointer (some ⟨t, 0, none⟩), .pointer (some ⟨t, 0, none⟩), .map (some b), .int .i64 p, .tuple #[.agg #[.int .i16 e, sl], .bool true], .agg #[.int .i16 e, sl],
      .bool true, .bool false, .int .i64 p, .bool false, .bool false, .bool true, .bool false, .bool false, .bool false, .int .i16 e, .pointer (some ⟨N + 1 + 1 + 1 + 1 + 1, 0, none⟩), .int .i16 e, .bool false, .bool false, .int .i16 e,
      .pointer (some ⟨N + 1 + 1 + 1 + 1 + 1, 0, none⟩), .int .i16 e, .bool false, .bool false, undef, undef, .bool false, .bool false, .int .i16 e, .pointer (some ⟨N + 1 + 1 + 1 + 1 + 1, 0, none⟩), .int .i16 e, .bool false,
      .pointer (some ⟨N + 1 + 1 + 1 + 1 + 1, 1, none⟩), sl, .func (.func 35) #[] #[.pointer (some ⟨N + 1 + 1 + 1 + 1 + 1 + 1, 0, none⟩)], u60, u61,
      undef, undef, undef, undef, undef, undef, undef, undef, undef, undef, undef, undef, undef, undef, undef, undef, undef, undef, undef, undef, undef, undef, undef], defers := [] }
set_option maxRecDepth 100000 in
set_option maxHeartbeats 4000000 in
theorem judge_same (t b k : Nat) (f : Int → Option Value) (p e s c : Int) (ms : List Mk) (w : World) (hT : TB w t b k f) (hp : wf64 p) (hp0 : 0 ≤ p) (hbad : badI p e s c = false) (v : Value) (hf : f p = some v)
    (gb go cap : Nat) (hv : v = .agg #[.int .i16 e, .slice (some ⟨gb, go, none⟩) ms.length cap]) (h5 : ms.length ≤ 5) (h1 : 0 < ms.length) (hgb : gb < w.heap.size) (hat : ∀ j m, ms[j]? = some m → MkAt w gb (go + j * 3) m) (hms : ∀ m ∈ ms, (0 ≤ m.seq ∧ m.seq ≤ 2147483647) ∧ 1 ≤ m.count ∧ m.count ≤ 256) :
    Calls Try.prog 9 #[.pointer (some ⟨t, 0, none⟩), .int .i64 p, .int .i16 e, .int .i32 s, .int .i64 c] w (jpost (judgeM (some (e, ms)) e s c) w) := by
  refine (callsIn_wide (n := 6)).1 ?_
  have HBAD := Lib.hid hbad
  have hlt := hT.lt
  have hBJ : Below w.heap.size w (jw w s c) := by
    unfold jw
    exact (((((Below.refl w.heap.size w).alloc (Nat.le_refl _) _).alloc (by simp) _).alloc (by simp; omega) _).alloc (by simp; omega) _).alloc (by simp; omega) _
  have hrun := look_run (jw w s c) b k f (hT.mp.kept (hBJ.block b hlt.2)) p hp
  rw [hf] at hrun
  have c0 := (hBJ.cell (p := ⟨t, 0, none⟩) hlt.1).trans hT.c
  simp only [Option.getD_some, Option.isSome_some, hv] at hrun
  obtain ⟨n, hn⟩ : ∃ n, n = ms.length := ⟨_, rfl⟩
  rw [← hn] at hrun
  unfold jw at hrun c0
  clear hbad hv hf
  have g1 : Fence.wide.fn 18 := trivial
  have g2 : Fence.wide.fn 19 := trivial
  have g3 : Fence.wide.fn 20 := trivial
  refine callsIn_of_wp_marks Try.func9 rfl trivial ?_ rfl
  simp only [Try.ntmps9, List.size_toArray, List.length_cons, List.length_nil, Nat.reduceAdd, Nat.reduceSub, Array.replicate_succ, Array.replicate_zero, List.push_toArray, List.append_toArray, List.nil_append, List.cons_append]
  gi_wp2_with (first | (gi_at_call 18; refine (callsIn_wide.2 (bad_any _ _ _ _ _)).mono ?_; rintro r w' ⟨rfl, rfl⟩; rw [HBAD.out]) | (gi_at_call 19; refine (back_in Fence.wide _ trivial rfl _ _ _ _).mono ?_; rintro r w' ⟨rfl, rfl⟩))
  obtain ⟨sl, hsl⟩ : ∃ sl, sl = Value.slice (some ⟨gb, go, none⟩) ms.length cap := ⟨_, rfl⟩
  have HSL := Lib.hid hsl
  rw [← hsl]
  clear hsl
  obtain ⟨W0, hW0⟩ : ∃ W0, W0 = ((jw w s c).alloc (.cells #[.int .i16 e, sl] 60)).alloc (.cells #[sl] 58) := ⟨_, rfl⟩
  have hB0 : Below w.heap.size w W0 := by
    rw [hW0]
    have hz := jw_size w s c
    exact ((jw_below w s c).alloc (by omega) _).alloc (by rw [World.size_alloc]; omega) _
  have hJI : JI w W0 e s c sl := by rw [hW0]; exact (ji_new w e s c sl).alloc _
  have hBk : W0.cell? ⟨w.heap.size + 1 + 1 + 1 + 1 + 1 + 1, 0, none⟩ = some sl := by
    rw [hW0]
    have := cell_new ((jw w s c).alloc (.cells #[.int .i16 e, sl] 60)) sl 58
    rw [World.size_alloc, jw_size] at this
    exact this
  have hsz0 : W0.heap.size = w.heap.size + 1 + 1 + 1 + 1 + 1 + 1 + 1 := by rw [hW0, World.size_alloc, World.size_alloc, jw_size]
  have hW0' := hW0
  unfold jw at hW0'
  rw [← hW0']
  clear hW0 hW0' hrun c0 hBJ
  have HW := Lib.hid hB0
  refine wpIn_rangeFunc_ownH rfl (by decide) (gf := 35) (lb := #[.pointer (some ⟨w.heap.size + 1 + 1 + 1 + 1 + 1 + 1, 0, none⟩)]) rfl trivial (enters_of Try.func35 (by kernel_rfl) rfl)
    (back_stops Fence.wide _ trivial rfl (by decide) (w.heap.size + 1 + 1 + 1 + 1 + 1 + 1) W0.heap.size gb go cap ms h5 W0 (by omega) (Nat.le_refl _) (by omega) (by rw [hBk, HSL.out]) (fun j m h => (hat j m h).below hB0 hgb)) belowK_t (belowK_b (Nat.le_refl _)) (Below.refl _ _) (fun _ => rfl)
    (fun pre W => ((∀ x ∈ pre, hitB s c x = false) ∧ JI w W e s c sl) ∧ Below W0.heap.size W0 W)
    (fun cd pre W => (cd = .ret ∧ ∃ ini last, pre = ini ++ [last] ∧ (∀ x ∈ ini, hitB s c x = false) ∧ hitB s c last = true ∧ JR w W last.2.base true 0) ∧ Below w.heap.size w W)
    (OwnFrom.and (Own.from (fun st A B row hs hg hr => ⟨hs.1, hs.2.stay hg hr⟩) _) (ownFrom_below (Nat.le_refl _) (Nat.le_refl _)))
    (fun cd => OwnFrom.and (Own.from (fun st A B row hs hg hr => by obtain ⟨q, ini, last, e1, e2, e3, e4⟩ := hs; exact ⟨q, ini, last, e1, e2, e3, e4.stay hg hr⟩) _) (ownFrom_below (Nat.le_refl _) hB0.size))
    ⟨⟨by simp, hJI⟩, Below.refl _ _⟩
    (fun x a' W => ∃ Bx, W0.heap.size ≤ Bx ∧ W.heap[Bx]? = some (.cells #[.int .i32 x.2.seq, .int .i64 x.2.count, .int .i64 x.2.base] 66 (0, 0)) ∧ a' = jact t b w.heap.size p e s c sl (.pointer (some ⟨Bx, 0, none⟩)) (.int .i64 (x.1 : Int)) x.2.val)
    (fun x a' _ X Y row hs hg hr => by obtain ⟨Bx, q1, q2, q3⟩ := hs; exact ⟨Bx, q1, cells_stay q2 hg (fun r e => (hr r e).2), q3⟩)
    ?assign ?body ?done ?stop
  case assign =>
    rintro l pre x W K ⟨⟨hp, hj⟩, hB⟩ hK
    unfold encB Mk.val
    gi_wp2
    exact hK _ _ ((KeepsOthers.alloc _ _).from _) ((Below.refl _ W).alloc hB.size _) ⟨⟨hp, hj.alloc _⟩, hB.alloc hB.size _⟩ ⟨W.heap.size, hB.size, heap_alloc_new W _, rfl⟩
  case body =>
    rintro l pre x a' W hl ⟨r, hr⟩ ⟨⟨hp, hj⟩, hB⟩ ⟨Bx, hBx, hbx, rfl⟩ hlt'
    have k0 : W.cell? ⟨Bx, 0, none⟩ = some (.int .i32 x.2.seq) := by rw [cell_of_row _ Bx 0 _ _ _ hbx]; rfl
    have k1 : W.cell? ⟨Bx, 1, none⟩ = some (.int .i64 x.2.count) := by rw [cell_of_row _ Bx 1 _ _ _ hbx]; rfl
    have k2 : W.cell? ⟨Bx, 2, none⟩ = some (.int .i64 x.2.base) := by rw [cell_of_row _ Bx 2 _ _ _ hbx]; rfl
    have c0 : W.cell? ⟨w.heap.size, 0, none⟩ = some (.int .i32 s) := Boxed.cell hj.b0
    have c1 : W.cell? ⟨w.heap.size + 1, 0, none⟩ = some (.int .i64 c) := Boxed.cell hj.b1
    have c2 : W.cell? ⟨w.heap.size + 1 + 1, 0, none⟩ = some (.int .i64 0) := Boxed.cell hj.b2
    have c3 : W.cell? ⟨w.heap.size + 1 + 1 + 1, 0, none⟩ = some (.bool false) := Boxed.cell hj.b3
    have c4 : W.cell? ⟨w.heap.size + 1 + 1 + 1 + 1, 0, none⟩ = some (.int .i64 0) := Boxed.cell hj.b4
    have f2 : W.frozen? ⟨w.heap.size + 1 + 1, 0, none⟩ = false := Boxed.frozen hj.b2
    have f3 : W.frozen? ⟨w.heap.size + 1 + 1 + 1, 0, none⟩ = false := Boxed.frozen hj.b3
    have f4 : W.frozen? ⟨w.heap.size + 1 + 1 + 1 + 1, 0, none⟩ = false := Boxed.frozen hj.b4
    have HP := Lib.hid hp
    have HJ := Lib.hid hj
    have HBW := Lib.hid hB
    clear hp hj hB hbx
    unfold jact
    by_cases h1s : x.2.seq = s
    · by_cases h2s : x.2.count = c
      · have e1 : (x.2.seq == s) = true := by rw [beq_iff_eq]; exact h1s
        have e2 : (x.2.count == c) = true := by rw [beq_iff_eq]; exact h2s
        have HIT := Lib.hid (show hitB s c x = true by unfold hitB; rw [e1, e2]; rfl)
        clear h1s h2s
        gi_wp2
        exact ⟨(((KeepsOthers.setCell _ _ _).trans (KeepsOthers.setCell _ _ _)).trans (KeepsOthers.setCell _ _ _)).from _, ⟨rfl, pre, x, rfl, HP.out, HIT.out, jr_put HJ.out x.2.base true 0⟩, (((HW.out.trans (HBW.out.mono HW.out.size)).setCell (p := ⟨w.heap.size + 1 + 1, 0, none⟩) (by dsimp only; omega) _).setCell (p := ⟨w.heap.size + 1 + 1 + 1, 0, none⟩) (by dsimp only; omega) _).setCell (p := ⟨w.heap.size + 1 + 1 + 1 + 1, 0, none⟩) (by dsimp only; omega) _⟩
      · have e1 : (x.2.seq == s) = true := by rw [beq_iff_eq]; exact h1s
        have e2 : (x.2.count == c) = false := by rw [beq_eq_false_iff_ne]; exact h2s
        have HIT := Lib.hid (show hitB s c x = false by unfold hitB; rw [e1, e2]; rfl)
        clear h1s h2s
        gi_wp2
        exact ⟨KeepsFrom.refl _ _, Below.refl _ _, ⟨fun q hq => (List.mem_append.1 hq).elim (HP.out q) (fun e => by simp at e; subst e; exact HIT.out), HJ.out⟩, HBW.out⟩
    · have e1 : (x.2.seq == s) = false := by rw [beq_eq_false_iff_ne]; exact h1s
      have HIT := Lib.hid (show hitB s c x = false by unfold hitB; rw [e1]; rfl)
      clear h1s
      gi_wp2
      exact ⟨KeepsFrom.refl _ _, Below.refl _ _, ⟨fun q hq => (List.mem_append.1 hq).elim (HP.out q) (fun e => by simp at e; subst e; exact HIT.out), HJ.out⟩, HBW.out⟩
  case done =>
    rintro D ys W hD rfl ⟨⟨hp, hj⟩, hB⟩ hK
    obtain ⟨j0, hj0⟩ : ∃ j0 : Nat, ms.length = j0 + 1 := ⟨ms.length - 1, by omega⟩
    obtain ⟨m, hm⟩ : ∃ m, ms[j0]? = some m := ⟨_, List.getElem?_eq_getElem (by omega)⟩
    have hb0 := hms m (List.mem_of_getElem? hm)
    have hBW := HW.out.trans (hB.mono HW.out.size)
    have hatm := (hat j0 m hm).below hBW hgb
    have MK := Lib.hid hatm
    have k0 := hatm.c0
    have k1 := hatm.c1
    have k2 := hatm.c2
    obtain ⟨c0, c2, c3, c4, f2, f3, f4, cm⟩ := hj.cells
    obtain ⟨N1, hN1⟩ : ∃ N1, N1 = ms.length := ⟨_, rfl⟩
    rw [HSL.out, ← hN1] at cm
    have hq : (N1 : Int) - 1 = (j0 : Int) := by omega
    have hjn : j0 < N1 := by omega
    have hN5 : N1 ≤ 5 := by omega
    have hz1 : IntKind.i64.wrap ((N1 : Int) - 1) = (j0 : Int) := by rw [IntWalk.i64_in _ (by omega)]; exact hq
    have hq1 : (0 : Int) ≤ (j0 : Int) := by omega
    have hq2 : (j0 : Int) < (N1 : Int) := by omega
    have hix : ∀ W : World, (Instr.indexAt 58 (.slice (some ⟨gb, go, none⟩) N1 cap) (.int .i64 (j0 : Int))).run Try.prog W = .ok (.pointer (some ⟨gb, go + j0 * 3, none⟩)) W := by
      intro W
      have hu : Try.prog.underlying 58 = some (.slice (Try.prog.elem 58)) := by kernel_rfl
      have hsz : ∀ W : World, (sizeOf (Try.prog.elem 58)).run Try.prog W = .ok 3 W := fun W => by kernel_rfl
      rw [run_indexAt_slice W _ _ _ _ _ _ hu, if_pos ⟨hq1, hq2⟩, hsz]
      simp [Result.andThen, add_off]
    have hix2 : ∀ W : World, (Instr.indexAt 58 (.slice (some ⟨gb, go, none⟩) N1 cap) (.int .i64 ((N1 : Int) - 1))).run Try.prog W = .ok (.pointer (some ⟨gb, go + j0 * 3, none⟩)) W := by
      intro W
      rw [hq]
      exact hix W
    have HQ := Lib.hid hq
    clear hq
    have HN1 := Lib.hid hN1
    have HJ0 := Lib.hid hj0
    have hgW : gb < W.heap.size := Nat.lt_of_lt_of_le hgb hBW.size
    have HJ := Lib.hid hj
    have HP := Lib.hid hp
    have HBW := Lib.hid hBW
    have HM := Lib.hid hm
    have hDW : D < W.heap.size := (Array.getElem?_eq_some_iff.1 hK).1
    have C0 := Lib.hid (show ∀ W', Below W.drew.heap.size W.drew W' → W'.cell? ⟨w.heap.size, 0, none⟩ = some (.int .i32 s) ∧ W'.cell? ⟨w.heap.size + 1 + 1, 0, none⟩ = some (.int .i64 0) ∧ W'.cell? ⟨w.heap.size + 1 + 1 + 1, 0, none⟩ = some (.bool false) ∧ W'.cell? ⟨w.heap.size + 1 + 1 + 1 + 1, 0, none⟩ = some (.int .i64 0) ∧ W'.frozen? ⟨w.heap.size + 1 + 1, 0, none⟩ = false ∧ W'.frozen? ⟨w.heap.size + 1 + 1 + 1, 0, none⟩ = false ∧ W'.frozen? ⟨w.heap.size + 1 + 1 + 1 + 1, 0, none⟩ = false by
      intro W' hb
      have hj' : JI w W' e s c (.slice (some ⟨gb, go, none⟩) ms.length cap) := by have := hj.below ((Below.refl W.heap.size W).drew.trans hb); rwa [HSL.out] at this
      obtain ⟨_, d2, d3, d4, g2, g3, g4, _⟩ := hj'.cells
      exact ⟨Boxed.cell hj'.b0, d2, d3, d4, g2, g3, g4⟩)
    have HDW := Lib.hid hDW
    have HKD := Lib.hid hK
    have MISS := Lib.hid (judge_miss e s c ms hj0 hm hp)
    clear hatm hj hp hB hBW hm hat hms hlt hn hN1 hj0 h5 h1 hDW hK
    obtain ⟨bb, e1⟩ : ∃ bb : Bool, ((m.next : Int) == s) = bb := ⟨_, rfl⟩
    have HBB := Lib.hid (show (m.next = s ↔ bb = true) by rw [← e1]; simp)
    gi_wp2_with fail
    refine wpIn_wide.2 ?_
    refine wp_normal ?_
    go_region_with (go_at_call 20; refine (next_any m _ hb0.1 hb0.2).mono ?_; rintro r w' ⟨rfl, hbn⟩; have c0' := (C0.out _ hbn).1)
    all_goals
      obtain ⟨_, d2, d3, d4, g2, g3, g4⟩ := C0.out _ hbn
      have hBW0 := (Below.refl W.heap.size W).drew.trans hbn
      have hKd := (hBW0.block D HDW.out).trans HKD.out
      have HKd := Lib.hid hKd
      have HJ' := Lib.hid (HJ.out.below hBW0)
      have HBn := Lib.hid (HBW.out.trans (hBW0.mono HBW.out.size))
      clear hbn hBW0 hKd
      obtain ⟨z, hz⟩ : ∃ z : Int, z = (if bb = true then 0 else 211) := ⟨_, rfl⟩
      have hx : judgeM (some (e, ms)) e s c = (0, false, z) := by
        rw [MISS.out, hz]
        cases bb
        · rw [if_neg (fun h => by have := HBB.out.1 h; cases this), if_neg (by decide)]
        · rw [if_pos (HBB.out.2 rfl), if_pos rfl]
      have HX := Lib.hid hx
      have HZ := Lib.hid hz
      clear hx hz
      cases bb
      all_goals
        refine onlyNormal_mk ?_
        gi_wp2
        have hz := HZ.out
        simp only [Bool.false_eq_true, if_false, if_true] at hz
        have hx := HX.out
        have hDD : w.heap.size + 1 + 1 + 1 + 1 < D := by omega
        have hJ := jr_put HJ'.out 0 false z
        have hK' := (jr_block w w' 0 false z D hDD).trans HKd.out
        have hB' := jr_below HBn.out 0 false z
        rw [hz] at hJ hK' hB' hx
        rw [hx]
        refine ⟨by simp, .inl ⟨_, _, rfl, run_takeDeferred hK', ?_⟩⟩
        have q2 := cell_kept (Boxed.cell hJ.b2) (grownBy_putObj' _ D (.deferred none)) (fun r e => by cases e; exact ⟨_, hK', rfl⟩)
        have q3 := cell_kept (Boxed.cell hJ.b3) (grownBy_putObj' _ D (.deferred none)) (fun r e => by cases e; exact ⟨_, hK', rfl⟩)
        have q4 := cell_kept (Boxed.cell hJ.b4) (grownBy_putObj' _ D (.deferred none)) (fun r e => by cases e; exact ⟨_, hK', rfl⟩)
        refine ⟨.tuple #[.int .i64 0, .bool false, _], ?_, ⟨rfl, hB'.trans (belowK_b (w := w) (Nat.le_refl _) _ D _ _ (by omega) hK' rfl rfl)⟩⟩
        simp [results, Try.f9, go_sem, q2, q3, q4]
  case stop =>
    rintro D cd pre W hD ⟨kk, hkk, hpre⟩ ⟨⟨rfl, ini, last, e1, e2, e3, hj⟩, hB⟩ hK
    gi_wp2
    refine ⟨by simp, .inl ⟨_, _, rfl, run_takeDeferred hK, ?_⟩⟩
    have q2 := cell_kept (Boxed.cell hj.b2) (grownBy_putObj' _ D (.deferred none)) (fun r e => by cases e; exact ⟨_, hK, rfl⟩)
    have q3 := cell_kept (Boxed.cell hj.b3) (grownBy_putObj' _ D (.deferred none)) (fun r e => by cases e; exact ⟨_, hK, rfl⟩)
    have q4 := cell_kept (Boxed.cell hj.b4) (grownBy_putObj' _ D (.deferred none)) (fun r e => by cases e; exact ⟨_, hK, rfl⟩)
    refine ⟨.tuple #[.int .i64 last.2.base, .bool true, .int .i64 0], ?_, by rw [judge_hit e s c ms (hpre.symm.trans e1) hkk e2 e3], hB.trans (belowK_b (w := w) (Nat.le_refl _) W D _ _ (by omega) hK rfl rfl)⟩
    simp [results, Try.f9, go_sem, q2, q3, q4]
end Go.Proofs.Ytnooekflmjebiaa
