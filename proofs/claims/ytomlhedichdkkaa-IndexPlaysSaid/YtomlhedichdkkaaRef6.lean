/- The walk of the reference's Add where it refuses. -/
import Derived.Test.YtomlhedichdkkaaRef5
namespace Go.Proofs.Ytomlhedichdkkaa
open Go Go.RowKit
set_option linter.unusedVariables false

set_option maxRecDepth 20000 in
set_option maxHeartbeats 2000000 in
theorem radd_bad (w : World) (base : Int) (A : Option Addr) (c n : Nat) (e : Ent) (h : badE e) :
    Calls Try.prog 30 #[.agg #[.int .i64 base, .slice A n c], e.val] w fun r w' => r = .returned (.tuple #[.agg #[.int .i64 base, .slice A n c], .int .i64 3]) ∧ Below w.heap.size w w' := by
  have hb1 := (Below.refl w.heap.size w).alloc (Nat.le_refl _) (.cells #[.int .i64 base, .slice A n c] 47)
  have hb2 := hb1.alloc hb1.size (.cells #[.int .i64 e.base, .int .i64 e.count, .int .i64 e.at_, .int .i64 e.size, .int .i64 e.last, .int .i64 e.pid, .int .i16 e.pep, .int .i32 e.seq] 30)
  have B3 := Lib.hid (hb2.alloc hb2.size (.cells #[.int .i64 0, .slice none 0 0] 47))
  have h4 : e.count < 1 ∨ (¬ e.count < 1 ∧ 256 < e.count) ∨ (¬ e.count < 1 ∧ ¬ 256 < e.count ∧ e.size < 1) ∨ (¬ e.count < 1 ∧ ¬ 256 < e.count ∧ ¬ e.size < 1 ∧ 36000 < e.size) := by unfold badE at h; omega
  have HB2 := Lib.hid hb2
  clear h hb1 hb2
  unfold Ent.val
  rcases h4 with j1 | ⟨j1, j2⟩ | ⟨j1, j2, j3⟩ | ⟨j1, j2, j3, j4⟩
  all_goals
    go_enter Try.func30, Try.ntmps30
    go_wp2_with fail
    refine bodyPost_ret (v := .tuple #[.agg #[.int .i64 base, .slice A n c], .int .i64 3]) ?_ rfl ⟨rfl, ?_⟩
    · rw [results_cell_tmp rfl]
      go_simp
      try rfl
    · exact HB2.out.alloc HB2.out.size _
end Go.Proofs.Ytomlhedichdkkaa
