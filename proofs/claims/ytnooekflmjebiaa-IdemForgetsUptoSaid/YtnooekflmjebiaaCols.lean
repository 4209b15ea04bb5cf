/- Three rows in a struct's box that grow one behind the other (All's inner loop). -/
import Derived.Test.YtnooekflmjebiaaKeys
import Derived.Test.YtnooekflmjebiaaPIdemPlaysx0
namespace Go.Proofs.Ytnooekflmjebiaa
open Go Go.RowKit Go.Proofs.YtnooekflmjebiaaW.PrintWords Go.Proofs.Ytnooekflmjebiaa.PIdemPlays
set_option linter.unusedVariables false

theorem size_set (w : World) (a : Addr) (v : Value) : (w.setCell a v).heap.size = w.heap.size := by simp
/-- The box g7 of a Known whose three rows are the call's own; the box g9 of a remembered batch. -/
structure Cols (w0 : World) (g7 g9 : Nat) (x e : Int) (m : Mk) (u2 u3 u4 : Value) (L2 L3 L4 : List Int) (W : World) : Prop where
  r2 : (Kd.int .i32).R 21 W w0.heap.size (fun _ => True) u2 L2
  r3 : (Kd.int .i64).R 3 W w0.heap.size (fun _ => True) u3 L3
  r4 : (Kd.int .i64).R 2 W w0.heap.size (fun _ => True) u4 L4
  k7 : W.heap[g7]? = some (.cells #[.int .i64 x, .int .i16 e, u2, u3, u4] 52 (0, 0))
  k9 : W.heap[g9]? = some (.cells #[.int .i32 m.seq, .int .i64 m.count, .int .i64 m.base] 66 (0, 0))
  bl : Below w0.heap.size w0 W
  h7 : w0.heap.size ≤ g7
  ne : g7 < g9

/-- What the walk reads of such a world. -/
def ColsSee (g7 g9 : Nat) (x e : Int) (m : Mk) (u2 u3 u4 : Value) (W : World) : Prop :=
  (W.cell? ⟨g7, 2, none⟩ = some u2 ∧ W.cell? ⟨g7, 3, none⟩ = some u3 ∧ W.cell? ⟨g7, 4, none⟩ = some u4) ∧ (W.frozen? ⟨g7, 2, none⟩ = false ∧ W.frozen? ⟨g7, 3, none⟩ = false ∧ W.frozen? ⟨g7, 4, none⟩ = false) ∧
  (W.cell? ⟨g9, 0, none⟩ = some (.int .i32 m.seq) ∧ W.cell? ⟨g9, 1, none⟩ = some (.int .i64 m.count) ∧ W.cell? ⟨g9, 2, none⟩ = some (.int .i64 m.base)) ∧ g7 < W.heap.size ∧ g9 < W.heap.size
section
variable {w0 : World} {g7 g9 : Nat} {x e : Int} {m : Mk} {u2 u3 u4 : Value} {L2 L3 L4 : List Int} {W : World}
theorem cols_see (k7 : W.heap[g7]? = some (.cells #[.int .i64 x, .int .i16 e, u2, u3, u4] 52 (0, 0))) (k9 : W.heap[g9]? = some (.cells #[.int .i32 m.seq, .int .i64 m.count, .int .i64 m.base] 66 (0, 0))) : ColsSee g7 g9 x e m u2 u3 u4 W :=
  ⟨⟨(blk_cell k7 2).trans rfl, (blk_cell k7 3).trans rfl, (blk_cell k7 4).trans rfl⟩, ⟨blk_frozen k7 2, blk_frozen k7 3, blk_frozen k7 4⟩, ⟨(blk_cell k9 0).trans rfl, (blk_cell k9 1).trans rfl, (blk_cell k9 2).trans rfl⟩, blk_lt k7, blk_lt k9⟩
theorem Cols.app2 (h : Cols w0 g7 g9 x e m u2 u3 u4 L2 L3 L4 W) {v : Value} {w1 : World} {p : Int} (hr : (Kd.int .i32).R 21 w1 w0.heap.size (fun _ => True) v (L2 ++ [p])) (hb : Below w0.heap.size w0 w1) (hg : W.grownBy w1 u2.ownBlock) :
    ColsSee g7 g9 x e m u2 u3 u4 w1 ∧ Cols w0 g7 g9 x e m v u3 u4 (L2 ++ [p]) L3 L4 (w1.setCell ⟨g7, 2, none⟩ v) := by
  have k7 : w1.heap[g7]? = some (.cells #[.int .i64 x, .int .i16 e, u2, u3, u4] 52 (0, 0)) := blk_grown h.k7 hg (Kd.R_ne h.r2 h.k7 (by decide))
  have k9 : w1.heap[g9]? = some (.cells #[.int .i32 m.seq, .int .i64 m.count, .int .i64 m.base] 66 (0, 0)) := blk_grown h.k9 hg (Kd.R_ne h.r2 h.k9 (by decide))
  have r2' := hr
  have r3' := Kd.R_over h.r3 h.r2 (by decide) hg
  have r4' := Kd.R_over h.r4 h.r2 (by decide) hg
  exact ⟨cols_see k7 k9, ⟨Kd.R_set r2' k7 (by decide) 2 v, Kd.R_set r3' k7 (by decide) 2 v, Kd.R_set r4' k7 (by decide) 2 v, blk_put k7 2 v rfl, blk_far k9 (Nat.ne_of_gt h.ne) v, below_set hb h.h7, h.h7, h.ne⟩⟩
theorem Cols.app3 (h : Cols w0 g7 g9 x e m u2 u3 u4 L2 L3 L4 W) {v : Value} {w1 : World} {p : Int} (hr : (Kd.int .i64).R 3 w1 w0.heap.size (fun _ => True) v (L3 ++ [p])) (hb : Below w0.heap.size w0 w1) (hg : W.grownBy w1 u3.ownBlock) :
    ColsSee g7 g9 x e m u2 u3 u4 w1 ∧ Cols w0 g7 g9 x e m u2 v u4 L2 (L3 ++ [p]) L4 (w1.setCell ⟨g7, 3, none⟩ v) := by
  have k7 : w1.heap[g7]? = some (.cells #[.int .i64 x, .int .i16 e, u2, u3, u4] 52 (0, 0)) := blk_grown h.k7 hg (Kd.R_ne h.r3 h.k7 (by decide))
  have k9 : w1.heap[g9]? = some (.cells #[.int .i32 m.seq, .int .i64 m.count, .int .i64 m.base] 66 (0, 0)) := blk_grown h.k9 hg (Kd.R_ne h.r3 h.k9 (by decide))
  have r2' := Kd.R_over h.r2 h.r3 (by decide) hg
  have r3' := hr
  have r4' := Kd.R_over h.r4 h.r3 (by decide) hg
  exact ⟨cols_see k7 k9, ⟨Kd.R_set r2' k7 (by decide) 3 v, Kd.R_set r3' k7 (by decide) 3 v, Kd.R_set r4' k7 (by decide) 3 v, blk_put k7 3 v rfl, blk_far k9 (Nat.ne_of_gt h.ne) v, below_set hb h.h7, h.h7, h.ne⟩⟩
theorem Cols.app4 (h : Cols w0 g7 g9 x e m u2 u3 u4 L2 L3 L4 W) {v : Value} {w1 : World} {p : Int} (hr : (Kd.int .i64).R 2 w1 w0.heap.size (fun _ => True) v (L4 ++ [p])) (hb : Below w0.heap.size w0 w1) (hg : W.grownBy w1 u4.ownBlock) :
    ColsSee g7 g9 x e m u2 u3 u4 w1 ∧ Cols w0 g7 g9 x e m u2 u3 v L2 L3 (L4 ++ [p]) (w1.setCell ⟨g7, 4, none⟩ v) := by
  have k7 : w1.heap[g7]? = some (.cells #[.int .i64 x, .int .i16 e, u2, u3, u4] 52 (0, 0)) := blk_grown h.k7 hg (Kd.R_ne h.r4 h.k7 (by decide))
  have k9 : w1.heap[g9]? = some (.cells #[.int .i32 m.seq, .int .i64 m.count, .int .i64 m.base] 66 (0, 0)) := blk_grown h.k9 hg (Kd.R_ne h.r4 h.k9 (by decide))
  have r2' := Kd.R_over h.r2 h.r4 (by decide) hg
  have r3' := Kd.R_over h.r3 h.r4 (by decide) hg
  have r4' := hr
  exact ⟨cols_see k7 k9, ⟨Kd.R_set r2' k7 (by decide) 4 v, Kd.R_set r3' k7 (by decide) 4 v, Kd.R_set r4' k7 (by decide) 4 v, blk_put k7 4 v rfl, blk_far k9 (Nat.ne_of_gt h.ne) v, below_set hb h.h7, h.h7, h.ne⟩⟩
end
end Go.Proofs.Ytnooekflmjebiaa
