/- leatlaw18.step: one of the five steps. -/
import Derived.Test.YtkhopknpadncdaaLoad
import Derived.Test.YtkhopknpadncdaaPDiskMemoryx7
namespace Go.Proofs.Ytkhopknpadncdaa
open Go Go.RowKit Go.Maps Go.Proofs.YtkhopknpadncdaaW.PrintWords Go.Proofs.Ytkhopknpadncdaa.PDiskMemory Go.Proofs.YtkhopknpadncdaaW.PrintMore
set_option linter.unusedVariables false

theorem rdF_at {l : List Int} {i : Nat} {x : Int} (h : l[i]? = some x) : rd l (i : Int) = x := by
  unfold rd
  rw [Int.toNat_natCast, List.getD_eq_getElem?_getD, h, Option.getD_some]
theorem w64F {i : Nat} (h : i ≤ 140737488355328) : wrap64 ((i : Int) + 1) = ((i + 1 : Nat) : Int) := by
  unfold wrap64
  omega
theorem copyF_l : ∀ (k : Nat) (l : List Int) (i : Nat), l.length ≤ 140737488355328 → l.length < k + i → i ≤ l.length → leatref01_Copy.l0 k l (l.take i) i = some l
  | 0, l, i, hb, hk, hi => by omega
  | k + 1, l, i, hb, hk, hi => by
    unfold leatref01_Copy.l0
    by_cases h : i < l.length
    · rw [if_pos (by omega), if_pos (by omega), if_pos (by rw [List.length_take]; omega), rdF_at (List.getElem?_eq_getElem h), w64F (by omega)]
      rw [show l.take i ++ [l[i]] = l.take (i + 1) from (List.take_append_getElem h)]
      exact copyF_l k l (i + 1) hb (by omega) h
    · rw [if_neg (by omega), List.take_of_length_le (by omega)]
theorem copyF_f {k : Nat} {l : List Int} (hb : l.length ≤ 140737488355328) (hk : l.length < k) : leatref01_Copy.f k l = some l :=
  copyF_l k l 0 hb (by omega) (by omega)
section
variable {w W W0 W' : World} {d N : Nat} {k : Dk} {v : Value} {l : List Int}
end
end Go.Proofs.Ytkhopknpadncdaa
