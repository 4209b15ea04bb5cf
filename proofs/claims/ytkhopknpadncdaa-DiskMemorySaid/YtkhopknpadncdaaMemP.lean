/- DiskMemory without memory: Spoil, Wide, Intact, Turned. -/
import Derived.Test.YtkhopknpadncdaaP
import Derived.Test.YtkhopknpadncdaaPDiskMemoryx11
import Derived.Test.YtkhopknpadncdaaPDiskMemoryx14
namespace Go.Proofs.Ytkhopknpadncdaa
open Go Go.RowKit Go.Proofs.YtkhopknpadncdaaW.PrintWords Go.Proofs.Ytkhopknpadncdaa.PDiskMemory
set_option linter.unusedVariables false

theorem rdM_at {l : List Int} {i : Nat} {x : Int} (h : l[i]? = some x) : rd l (i : Int) = x := by
  unfold rd
  rw [Int.toNat_natCast, List.getD_eq_getElem?_getD, h, Option.getD_some]
theorem w64M {i : Nat} (h : i ≤ 140737488355328) : wrap64 ((i : Int) + 1) = ((i + 1 : Nat) : Int) := by
  unfold wrap64
  omega
theorem copyM_l : ∀ (k : Nat) (l : List Int) (i : Nat), l.length ≤ 140737488355328 → l.length < k + i → i ≤ l.length → leatref01_Copy.l0 k l (l.take i) i = some l
  | 0, l, i, hb, hk, hi => by omega
  | k + 1, l, i, hb, hk, hi => by
    unfold leatref01_Copy.l0
    by_cases h : i < l.length
    · rw [if_pos (by omega), if_pos (by omega), if_pos (by rw [List.length_take]; omega), rdM_at (List.getElem?_eq_getElem h), w64M (by omega)]
      rw [show l.take i ++ [l[i]] = l.take (i + 1) from (List.take_append_getElem h)]
      exact copyM_l k l (i + 1) hb (by omega) h
    · rw [if_neg (by omega), List.take_of_length_le (by omega)]
theorem copyM_f {k : Nat} {l : List Int} (hb : l.length ≤ 140737488355328) (hk : l.length < k) : leatref01_Copy.f k l = some l :=
  copyM_l k l 0 hb (by omega) (by omega)
/-- A byte turned. -/
def turn (x : Int) : Int := Go.bits .xor .u8 x 90
theorem turned_l : ∀ (k : Nat) (l : List Int) (i : Nat), l.length ≤ 140737488355328 → l.length < k + i → i ≤ l.length → leatref01_Turned.l0 k (l.map turn) l i = some true
  | 0, l, i, hb, hk, hi => by omega
  | k + 1, l, i, hb, hk, hi => by
    unfold leatref01_Turned.l0
    by_cases h : i < l.length
    · have hm : (l.map turn)[i]? = some (turn l[i]) := by rw [List.getElem?_map, List.getElem?_eq_getElem h]; rfl
      simp only [List.length_map]
      rw [if_pos (by omega), if_pos (by omega), if_pos (by omega), rdM_at hm, rdM_at (List.getElem?_eq_getElem h), if_pos (by rfl), w64M (by omega)]
      exact turned_l k l (i + 1) hb (by omega) h
    · rw [if_neg (by rw [List.length_map]; omega)]
theorem turned_f {k : Nat} {l : List Int} (hb : l.length ≤ 140737488355328) (hk : l.length < k) : leatref01_Turned.f k (l.map turn) l = some true := by
  unfold leatref01_Turned.f
  rw [if_pos (by rw [List.length_map])]
  exact turned_l k l 0 hb (by omega) (by omega)
/-- The 96 bytes behind. -/
def wideT : List Int := (List.range 96).map fun i : Nat => wrap64 (wrap64 ((i : Int) * 7) + 13) % 256
theorem wideT_len : wideT.length = 96 := by unfold wideT; rw [List.length_map, List.length_range]
theorem wide_l : ∀ (k : Nat) (l : List Int) (i : Nat), l.length ≤ 140737488351232 → 96 < k + i → i ≤ 96 → leatref01_Wide.l0 k (l ++ wideT.take i) i = some (l ++ wideT)
  | 0, l, i, hb, hk, hi => by omega
  | k + 1, l, i, hb, hk, hi => by
    have hw := wideT_len
    unfold leatref01_Wide.l0
    by_cases h : i < 96
    · have hg : wideT[i]'(by omega) = wrap64 (wrap64 ((i : Int) * 7) + 13) % 256 := by unfold wideT; simp
      rw [if_pos (by omega), if_pos (by rw [List.length_append, List.length_take]; omega), w64M (by omega), ← hg, List.append_assoc, List.take_append_getElem]
      exact wide_l k l (i + 1) hb (by omega) h
    · rw [if_neg (by omega), List.take_of_length_le (by omega)]
theorem wide_f {k : Nat} {l : List Int} (hb : l.length ≤ 140737488351232) (hk : l.length + 96 < k) : leatref01_Wide.f k l = some (l ++ wideT) := by
  unfold leatref01_Wide.f
  rw [copyM_f (by omega) (by omega), Option.bind_some]
  have := wide_l k l 0 hb (by omega) (by omega)
  rw [List.take_zero, List.append_nil] at this
  exact this
theorem sameM_l : ∀ (k : Nat) (l : List Int) (i : Nat), l.length ≤ 140737488355328 → l.length < k + i → i ≤ l.length → leatref01_Same.l0 k l l i = some true
  | 0, l, i, hb, hk, hi => by omega
  | k + 1, l, i, hb, hk, hi => by
    unfold leatref01_Same.l0
    by_cases h : i < l.length
    · rw [if_pos (by omega), if_pos (by omega), if_pos (by omega), if_pos rfl, w64M (by omega)]
      exact sameM_l k l (i + 1) hb (by omega) h
    · rw [if_neg (by omega)]
theorem sameM_f {k : Nat} {l : List Int} (hb : l.length ≤ 140737488355328) (hk : l.length < k) : leatref01_Same.f k l l = some true := by
  unfold leatref01_Same.f
  rw [if_pos rfl]
  exact sameM_l k l 0 hb (by omega) (by omega)
theorem intact_f {k : Nat} {l : List Int} (hb : l.length ≤ 140737488351232) (hk : l.length + 96 < k) : leatref01_Intact.f k (l ++ wideT) l = some true := by
  have hw := wideT_len
  unfold leatref01_Intact.f
  rw [wide_f hb hk, Option.bind_some, sameM_f (by rw [List.length_append]; omega) (by rw [List.length_append]; omega), Option.bind_some]
end Go.Proofs.Ytkhopknpadncdaa
