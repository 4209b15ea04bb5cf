/- DiskFails: what the printed reference functions answer: Twin, Same, Alike, others; Named, Find, made, Load. -/
import Derived.Test.YtkhopknpadncdaaLStep
import Derived.Test.YtkhopknpadncdaaPDiskFailsx8


import Derived.Test.YtkhopknpadncdaaPDiskFailsx11
import Derived.Lib.Strings
namespace Go.Proofs.Ytkhopknpadncdaa
open Go Go.RowKit Go.Proofs.YtkhopknpadncdaaW.PrintWords Go.Proofs.Ytkhopknpadncdaa.PDiskFails
set_option linter.unusedVariables false

/-- More rounds than any row has elements. -/
def fuel (n : Nat) : Nat := 140737488355330 + n
theorem rd45_at {l : List S45} {i : Nat} {x : S45} (h : l[i]? = some x) : rd_T45 l (i : Int) = x := by
  unfold rd_T45
  rw [Int.toNat_natCast, List.getD_eq_getElem?_getD, h, Option.getD_some]
theorem rd94_at {l : List S94} {i : Nat} {x : S94} (h : l[i]? = some x) : rd_T94 l (i : Int) = x := by
  unfold rd_T94
  rw [Int.toNat_natCast, List.getD_eq_getElem?_getD, h, Option.getD_some]
theorem twin_l : ∀ (k : Nat) (l : List S45) (i : Nat), l.length ≤ 3518437208882 → (∀ f ∈ l, f.f1.length ≤ big) → fuel l.length < k + i → i ≤ l.length → leatref18_Twin.l0 k l (l.take i) i = some l
  | 0, l, i, hb, hf, hk, hi => by unfold fuel at hk; omega
  | k + 1, l, i, hb, hf, hk, hi => by
    unfold leatref18_Twin.l0
    by_cases h : i < l.length
    · have h1 := hf l[i] (List.getElem_mem h)
      unfold big at h1
      rw [if_pos (by omega), if_pos (by omega), rd45_at (List.getElem?_eq_getElem h), copyF_f (by omega) (by unfold fuel at hk; omega), Option.bind_some, if_pos (by rw [List.length_take]; omega), w64F (by omega)]
      rw [show l.take i ++ [(⟨l[i].f0, l[i].f1⟩ : S45)] = l.take (i + 1) from (List.take_append_getElem h)]
      exact twin_l k l (i + 1) hb hf (by omega) h
    · rw [if_neg (by omega), List.take_of_length_le (by omega)]
theorem sameF_l : ∀ (k : Nat) (l : List Int) (i : Nat), l.length ≤ 140737488355328 → l.length < k + i → i ≤ l.length → leatref01_Same.l0 k l l i = some true
  | 0, l, i, hb, hk, hi => by omega
  | k + 1, l, i, hb, hk, hi => by
    unfold leatref01_Same.l0
    by_cases h : i < l.length
    · rw [if_pos (by omega), if_pos (by omega), if_pos (by omega), if_pos rfl, w64F (by omega)]
      exact sameF_l k l (i + 1) hb (by omega) h
    · rw [if_neg (by omega)]
theorem sameF_f {k : Nat} {l : List Int} (hb : l.length ≤ 140737488355328) (hk : l.length < k) : leatref01_Same.f k l l = some true := by
  unfold leatref01_Same.f
  rw [if_pos rfl]
  exact sameF_l k l 0 hb (by omega) (by omega)
theorem alike_l : ∀ (k : Nat) (l : List S45) (i : Nat), l.length ≤ 3518437208882 → (∀ f ∈ l, f.f1.length ≤ big) → fuel l.length < k + i → i ≤ l.length → leatref18_Alike.l0 k l l i = some true
  | 0, l, i, hb, hf, hk, hi => by unfold fuel at hk; omega
  | k + 1, l, i, hb, hf, hk, hi => by
    unfold leatref18_Alike.l0
    by_cases h : i < l.length
    · have h1 := hf l[i] (List.getElem_mem h)
      unfold big at h1
      rw [if_pos (by omega), if_pos (by omega), if_pos (by omega), rd45_at (List.getElem?_eq_getElem h), if_pos rfl, sameF_f (by omega) (by unfold fuel at hk; omega), Option.bind_some, if_pos rfl, w64F (by omega)]
      exact alike_l k l (i + 1) hb hf (by omega) h
    · rw [if_neg (by omega)]
theorem alike_f {l : List S45} (hb : l.length ≤ 3518437208882) (hf : ∀ f ∈ l, f.f1.length ≤ big) : leatref18_Alike.f (fuel l.length + 1) l l = some true := by
  unfold leatref18_Alike.f
  rw [if_pos rfl]
  exact alike_l _ l 0 hb hf (by omega) (by omega)
/-- The files but for one. -/
def othersL (x : ByteArray) (l : List S45) : List S45 := l.filter fun f => !decide (f.f0.toList = x.toList)
theorem others_l : ∀ (k : Nat) (x : ByteArray) (l : List S45) (i : Nat), l.length ≤ 3518437208882 → l.length < k + i → i ≤ l.length → leatlaw18_others.l0 k x (othersL x (l.take i)) l l.length i = some (othersL x l)
  | 0, x, l, i, hb, hk, hi => by omega
  | k + 1, x, l, i, hb, hk, hi => by
    unfold leatlaw18_others.l0
    by_cases h : i < l.length
    · have hle : (othersL x (l.take i)).length ≤ i := Nat.le_trans (List.length_filter_le _ _) (by rw [List.length_take]; omega)
      have hs : othersL x (l.take (i + 1)) = othersL x (l.take i) ++ othersL x [l[i]] := by
        unfold othersL
        rw [← List.filter_append, List.take_append_getElem h]
      have ih := others_l k x l (i + 1) hb (by omega) h
      rw [hs] at ih
      rw [if_pos (by omega), if_pos (by omega), if_pos (by omega), rd45_at (List.getElem?_eq_getElem h), w64F (by omega)]
      by_cases he : l[i].f0.toList = x.toList
      · rw [if_pos he]
        rw [show othersL x [l[i]] = [] by unfold othersL; simp [he], List.append_nil] at ih
        exact ih
      · rw [if_neg he, if_pos (by omega)]
        rw [show othersL x [l[i]] = [l[i]] by unfold othersL; simp [he]] at ih
        exact ih
    · rw [if_neg (by omega), List.take_of_length_le (by omega)]
theorem others_f {x : ByteArray} {l : List S45} (hb : l.length ≤ 3518437208882) : leatlaw18_others.f (l.length + 1) l x = some (othersL x l) := by
  unfold leatlaw18_others.f
  exact others_l _ x l 0 hb (by omega) (by omega)

set_option maxHeartbeats 8000000 in
theorem named_l : ∀ (k : Nat) (x : ByteArray) (i : Nat), x.size ≤ 120 → x.size < k + i → i ≤ x.size → leatref18_Named.l0 k x i = some (!(x.data.toList.drop i).any badC)
  | 0, x, i, hb, hk, hi => by omega
  | k + 1, x, i, hb, hk, hi => by
    unfold leatref18_Named.l0
    by_cases h : i < x.size
    · have hd : x.data.toList.drop i = x[i] :: x.data.toList.drop (i + 1) := List.drop_eq_getElem_cons h
      have hb1 : bt x (i : Int) = (x[i].toNat : Int) := by
        unfold bt
        rw [dif_pos (by rw [Int.toNat_natCast]; exact h)]
        rfl
      have ih := named_l k x (i + 1) hb (by omega) h
      rw [if_pos (by omega), if_pos (by omega), w64F (by omega), ih, hb1, hd, List.any_cons]
      generalize (x.data.toList.drop (i + 1)).any badC = q
      generalize x[i] = c
      obtain ⟨v, hv⟩ : ∃ v : Nat, v = c.toNat := ⟨_, rfl⟩
      have hbad : badC c = !(decide (97 ≤ v ∧ v ≤ 122) || decide (65 ≤ v ∧ v ≤ 90) || decide (48 ≤ v ∧ v ≤ 57) || v == 46 || v == 95 || v == 45 || v == 47) := by rw [hv]; rfl
      rw [← hv]
      by_cases hg : (97 ≤ v ∧ v ≤ 122) ∨ (65 ≤ v ∧ v ≤ 90) ∨ (48 ≤ v ∧ v ≤ 57) ∨ v = 46 ∨ v = 95 ∨ v = 45 ∨ v = 47
      · have : badC c = false := by
          rw [hbad]
          simp only [Bool.not_eq_false', Bool.or_eq_true, decide_eq_true_eq, beq_iff_eq]
          omega
        rw [this, Bool.false_or]
        repeat' split
        all_goals first | rfl | (exfalso; omega)
      · have : badC c = true := by
          rw [hbad]
          simp only [Bool.not_eq_true', Bool.or_eq_false_iff, decide_eq_false_iff_not, beq_eq_false_iff_ne]
          omega
        rw [this, Bool.true_or]
        repeat' split
        all_goals first | rfl | (exfalso; omega)
    · rw [if_neg (by omega), List.drop_of_length_le (by show x.data.toList.length ≤ i; rw [Array.length_toList]; exact Nat.le_of_not_lt h)]
      rfl
theorem named_f {k : Nat} {x : ByteArray} (hk : 122 < k) : leatref18_Named.f k x = some (!badN x.data.toList) := by
  have hl : x.data.toList.length = x.size := Array.length_toList
  unfold leatref18_Named.f badN
  obtain ⟨k, rfl⟩ : ∃ q, k = q + 1 := ⟨k - 1, by omega⟩
  by_cases h0 : x.size = 0
  · rw [if_pos (by omega)]
    show (if (true : Bool) = true then some false else leatref18_Named.l0 k x 0) = _
    rw [if_pos rfl, show x.data.toList = [] from List.length_eq_zero_iff.1 (by omega)]
    rfl
  · rw [if_neg (by omega)]
    show (if decide ((x.size : Int) > 120) = true then some false else leatref18_Named.l0 k x 0) = _
    have he : x.data.toList.isEmpty = false := by
      cases hx : x.data.toList with
      | nil => rw [hx] at hl; simp at hl; omega
      | cons a r => rfl
    rw [he, Bool.false_or, hl]
    by_cases hb : 120 < x.size
    · rw [if_pos (decide_eq_true (by omega)), show decide (120 < x.size) = true from decide_eq_true hb]
      rfl
    · rw [if_neg (by simp; omega), show decide (120 < x.size) = false from decide_eq_false hb, Bool.false_or]
      exact named_l k x 0 (by omega) (by omega) (by omega)
end Go.Proofs.Ytkhopknpadncdaa
