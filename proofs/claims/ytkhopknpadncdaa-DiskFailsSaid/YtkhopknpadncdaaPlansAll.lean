/- DiskPlans answers true. -/
import Derived.Test.YtkhopknpadncdaaPlans
namespace Go.Proofs.Ytkhopknpadncdaa
open Go Go.RowKit Go.Maps Go.Proofs.YtkhopknpadncdaaW.PrintWords Go.Proofs.Ytkhopknpadncdaa.PDiskFails Go.Proofs.YtkhopknpadncdaaW.PrintMore
set_option linter.unusedVariables false

set_option maxRecDepth 100000 in
set_option maxHeartbeats 4000000 in
theorem plans_any (w : World) (step kind : Int) : Calls Try.prog 3 #[.int .i64 step, .int .i64 kind] w fun e w' => e = .returned (.bool true) ∧ Below w.heap.size w w' := by
  by_cases h1 : step < 1
  · have HA := Lib.hid (alive_any w)
    go_enter Try.func3, Try.ntmps3
    go_wp2_with (go_at_call 7; refine HA.out.mono ?_; rintro e w1 ⟨rfl, hb⟩; have HB1 := Lib.hid hb; clear hb)
    go_ret
    exact ⟨rfl, HB1.out⟩
  · by_cases h2 : 40 < step
    · have HA := Lib.hid (alive_any w)
      go_enter Try.func3, Try.ntmps3
      go_wp2_with (go_at_call 7; refine HA.out.mono ?_; rintro e w1 ⟨rfl, hb⟩; have HB1 := Lib.hid hb; clear hb)
      go_ret
      exact ⟨rfl, HB1.out⟩
    · by_cases k1 : kind = 1
      · exact plans_loop w step kind (.inl k1) (by omega) (by omega)
      · by_cases k2 : kind = 2
        · exact plans_loop w step kind (.inr k2) (by omega) (by omega)
        · have HA := Lib.hid (alive_any w)
          go_enter Try.func3, Try.ntmps3
          go_wp2_with (go_at_call 7; refine HA.out.mono ?_; rintro e w1 ⟨rfl, hb⟩; have HB1 := Lib.hid hb; clear hb)
          · go_ret
            exact ⟨rfl, HB1.out⟩
          · rename ((_ ∧ _) ∧ (_ ∨ _)) => h
            exfalso
            have := h.2
            simp [k1, k2] at this
end Go.Proofs.Ytkhopknpadncdaa
