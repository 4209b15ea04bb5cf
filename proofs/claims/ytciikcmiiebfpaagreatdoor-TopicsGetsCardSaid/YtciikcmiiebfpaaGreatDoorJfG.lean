/- PROVED: the closed facts of TopicsGets's row (joinedFacts), each its own lemma: as one equation the kernel wants 11.4 GB, over the lid. Conditions: none. -/
import Derived.ProofKit
import Derived.Test.YtciikcmiiebfpaaGreatDoorCards
namespace Go.Proofs.YtciikcmiiebfpaaGreatDoor.topicsGets
open Go Go.ChangeShapes Go.WideShapes Go.ChangeAt Go.RowKit Go.ChangeMaps

theorem and_tt {a b : Bool} (h : a = true) (k : b = true) : (a && b) = true := by subst h; subst k; rfl

set_option maxHeartbeats 4000000 in
theorem closed_facts : joinedFacts Tryz.prog 3 Tryz.f3 Rows.topicsGetsSpec Rows.topicsGetsRow = true := by
  unfold joinedFacts
  repeat' (with_reducible apply and_tt)
  all_goals (as_aux_lemma => kernel_rfl)
end Go.Proofs.YtciikcmiiebfpaaGreatDoor.topicsGets
