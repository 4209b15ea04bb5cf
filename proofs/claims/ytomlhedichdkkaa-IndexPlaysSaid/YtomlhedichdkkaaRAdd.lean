/- One call of a script: where it adds. -/
import Derived.Test.YtomlhedichdkkaaRef10
namespace Go.Proofs.Ytomlhedichdkkaa
open Go Go.RowKit
set_option linter.unusedVariables false

section
variable (w : World) (base : Int) (L : List Ent) (A : Option Addr) (c n : Nat) (hn : L.length = n) (hm : n ≤ 1759218604390) (hr : Row w A L) (hv : Valid base L)
include hn hm hr hv

/-- What the reference's Add answers. -/
def RAdd (e : Ent) (r : Ending) (w' : World) : Prop :=
  (addE base L e = 0 → AddedRow base (L ++ [e]) w r w') ∧
  (addE base L e ≠ 0 → r = .returned (.tuple #[.agg #[.int .i64 base, .slice A n c], .int .i64 (addE base L e : Nat)]) ∧ Below w.heap.size w w')

omit hn hm hr hv in
theorem RAdd.of_err {e : Ent} {r : Ending} {w' : World} {k : Nat} (hk : addE base L e = k) (h0 : k ≠ 0) (h : r = .returned (.tuple #[.agg #[.int .i64 base, .slice A n c], .int .i64 (k : Nat)]) ∧ Below w.heap.size w w') : RAdd w base L A c n e r w' :=
  ⟨fun h => absurd (hk.symm.trans h) h0, fun _ => by rw [hk]; exact h⟩

theorem radd_any (e : Ent) : Calls Try.prog 30 #[.agg #[.int .i64 base, .slice A n c], e.val] w (RAdd w base L A c n e) := by
  by_cases h : badE e
  · refine (radd_bad w base A c n e h).mono fun r w' hh => RAdd.of_err w base L A c n (k := 3) (by unfold addE; rw [if_pos h]) (by decide) hh
  by_cases h1 : e.base = nextOf base L
  · by_cases h2 : e.at_ = sizeOf L
    · by_cases h3 : 4611686018427387904 - e.count < e.base
      · refine (radd_end w base L A c n hn hm hr hv e h h1 h2 h3).mono fun r w' hh => RAdd.of_err w base L A c n (k := 222) (by unfold addE; rw [if_neg h, if_neg (by simp [h1, h2]), if_pos h3]) (by decide) hh
      · have hz : addE base L e = 0 := by
          have hg : ¬ (e.base ≠ nextOf base L ∨ e.at_ ≠ sizeOf L) := by simp [h1, h2]
          unfold addE
          rw [if_neg h, if_neg hg, if_neg h3]
        exact (radd_ok w base L A c n hn hm hr hv e h h1 h2 h3).mono fun r w' hh => ⟨fun _ => hh, fun h => absurd hz h⟩
    · refine (radd_gap2 w base L A c n hn hm hr hv e h h1 h2).mono fun r w' hh => RAdd.of_err w base L A c n (k := 190) (by unfold addE; rw [if_neg h, if_pos (.inr h2)]) (by decide) hh
  · refine (radd_gap1 w base L A c n hn hm hr hv e h h1).mono fun r w' hh => RAdd.of_err w base L A c n (k := 190) (by unfold addE; rw [if_neg h, if_pos (.inl h1)]) (by decide) hh
end
end Go.Proofs.Ytomlhedichdkkaa
