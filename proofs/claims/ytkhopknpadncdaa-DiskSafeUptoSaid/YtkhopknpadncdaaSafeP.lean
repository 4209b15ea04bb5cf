/- DiskSafe without memory: the reference's functions; the file f through the law. -/
import Derived.Test.YtkhopknpadncdaaP
import Derived.Test.YtkhopknpadncdaaPDiskSafex7
namespace Go.Proofs.Ytkhopknpadncdaa
open Go Go.RowKit Go.Proofs.YtkhopknpadncdaaW.PrintWords Go.Proofs.Ytkhopknpadncdaa.PDiskSafe
set_option linter.unusedVariables false

theorem rd_at {l : List Int} {i : Nat} {x : Int} (h : l[i]? = some x) : rd l (i : Int) = x := by
  unfold rd
  rw [Int.toNat_natCast, List.getD_eq_getElem?_getD, h, Option.getD_some]
theorem w64 {i : Nat} (h : i ≤ 140737488355328) : wrap64 ((i : Int) + 1) = ((i + 1 : Nat) : Int) := by
  unfold wrap64
  omega
theorem copy_l : ∀ (k : Nat) (l : List Int) (i : Nat), l.length ≤ 140737488355328 → l.length < k + i → i ≤ l.length → leatref01_Copy.l0 k l (l.take i) i = some l
  | 0, l, i, hb, hk, hi => by omega
  | k + 1, l, i, hb, hk, hi => by
    unfold leatref01_Copy.l0
    by_cases h : i < l.length
    · rw [if_pos (by omega), if_pos (by omega), if_pos (by rw [List.length_take]; omega), rd_at (List.getElem?_eq_getElem h), w64 (by omega)]
      rw [show l.take i ++ [l[i]] = l.take (i + 1) from (List.take_append_getElem h)]
      exact copy_l k l (i + 1) hb (by omega) h
    · rw [if_neg (by omega), List.take_of_length_le (by omega)]
theorem copy_f {k : Nat} {l : List Int} (hb : l.length ≤ 140737488355328) (hk : l.length < k) : leatref01_Copy.f k l = some l := by
  have := copy_l k l 0 hb (by omega) (by omega)
  exact this
theorem cat_l : ∀ (k : Nat) (a l : List Int) (i : Nat), a.length + l.length ≤ 140737488355328 → l.length < k + i → i ≤ l.length → leatref01_Cat.l0 k l (a ++ l.take i) i = some (a ++ l)
  | 0, a, l, i, hb, hk, hi => by omega
  | k + 1, a, l, i, hb, hk, hi => by
    unfold leatref01_Cat.l0
    by_cases h : i < l.length
    · rw [if_pos (by omega), if_pos (by omega), if_pos (by rw [List.length_append, List.length_take]; omega), rd_at (List.getElem?_eq_getElem h), w64 (by omega)]
      rw [List.append_assoc, show l.take i ++ [l[i]] = l.take (i + 1) from (List.take_append_getElem h)]
      exact cat_l k a l (i + 1) hb (by omega) h
    · rw [if_neg (by omega), List.take_of_length_le (by omega)]
theorem cat_f {k : Nat} {a l : List Int} (hb : a.length + l.length ≤ 140737488355328) (hk : a.length + l.length < k) : leatref01_Cat.f k a l = some (a ++ l) := by
  unfold leatref01_Cat.f
  rw [copy_f (by omega) (by omega), Option.bind_some]
  have := cat_l k a l 0 hb (by omega) (by omega)
  rw [List.take_zero, List.append_nil] at this
  exact this
theorem same_l : ∀ (k : Nat) (l : List Int) (i : Nat), l.length ≤ 140737488355328 → l.length < k + i → i ≤ l.length → leatref01_Same.l0 k l l i = some true
  | 0, l, i, hb, hk, hi => by omega
  | k + 1, l, i, hb, hk, hi => by
    unfold leatref01_Same.l0
    by_cases h : i < l.length
    · rw [if_pos (by omega), if_pos (by omega), if_pos (by omega), if_pos rfl, w64 (by omega)]
      exact same_l k l (i + 1) hb (by omega) h
    · rw [if_neg (by omega)]
theorem same_f {k : Nat} {l : List Int} (hb : l.length ≤ 140737488355328) (hk : l.length < k) : leatref01_Same.f k l l = some true := by
  unfold leatref01_Same.f
  rw [if_pos rfl]
  exact same_l k l 0 hb (by omega) (by omega)
theorem piece_l : ∀ (k : Nat) (l : List Int) (n i : Nat), l.length ≤ 140737488355328 → n ≤ l.length → l.length < k + i → i ≤ n → leatref01_Piece.l0 k l n (l.take i) i = some (l.take n)
  | 0, l, n, i, hb, hn, hk, hi => by omega
  | k + 1, l, n, i, hb, hn, hk, hi => by
    unfold leatref01_Piece.l0
    by_cases h : i < n
    · rw [if_pos (by omega), if_pos (by omega), if_pos (by omega), if_pos (by rw [List.length_take]; omega), rd_at (List.getElem?_eq_getElem (show i < l.length by omega)), w64 (by omega)]
      rw [show l.take i ++ [l[i]] = l.take (i + 1) from (List.take_append_getElem (by omega))]
      exact piece_l k l n (i + 1) hb hn (by omega) h
    · obtain rfl : i = n := by omega
      by_cases h2 : i < l.length
      · rw [if_pos (by omega), if_neg (by omega)]
      · rw [if_neg (by omega)]
theorem piece_f {k : Nat} {l : List Int} {n : Nat} (hb : l.length ≤ 140737488355328) (hn : n ≤ l.length) (hk : l.length + 1 < k) : leatref01_Piece.f k l 0 n = some (l.take n) := by
  unfold leatref01_Piece.f
  rw [Option.bind_some, if_neg (by omega)]
  obtain ⟨k, rfl⟩ : ∃ q, k = q + 1 := ⟨k - 1, by omega⟩
  unfold leatref01_Piece.j0
  exact piece_l k l n 0 hb hn (by omega) (by omega)

/-- The disk that holds the file f alone. -/
def fD (s t : List Int) (cs : List Chg) (n : Int) : Dk := ⟨[([102], ⟨s, t, cs⟩)], 16777216, [], n, false⟩
def addC (b : List Int) : Chg := ⟨false, 0, b⟩
theorem fD_look (s t : List Int) (cs : List Chg) (n : Int) : look (fD s t cs n).files [102] = some ⟨s, t, cs⟩ := rfl
theorem fD_step (doF : Dk → Dk × Int) (paF : Dk → Int → Dk) (s t : List Int) (cs : List Chg) (n : Int) : stepD doF paF (fD s t cs n) = doF (fD s t cs (n + 1)) := rfl
theorem fD_create : stepD (createD [102]) (fun k _ => k) ⟨[], 16777216, [], 0, false⟩ = (fD [] [] [] 1, 0) := rfl
theorem fD_append (s t b : List Int) (cs : List Chg) (n : Int) (h : t.length + b.length ≤ 16777216) : stepD (appendD b [102]) (partD b [102]) (fD s t cs n) = (fD s (t ++ b) (cs ++ [addC b]) (n + 1), 0) := by
  rw [fD_step]
  unfold appendD
  rw [fD_look]
  simp only
  rw [if_neg (by show ¬ (16777216 - ((t.length + 0 : Nat) : Int) < b.length); omega)]
  rfl
theorem fD_sync (s t : List Int) (cs : List Chg) (n : Int) : stepD (syncD [102]) (fun k _ => k) (fD s t cs n) = (fD t t [] (n + 1), 0) := rfl
theorem fD_cut (s t : List Int) (cs : List Chg) (n c : Int) (h0 : 0 ≤ c) (h1 : c ≤ t.length) : stepD (cutD c [102]) (fun k _ => k) (fD s t cs n) = (fD s (t.take c.toNat) (cs ++ [⟨true, c, []⟩]) (n + 1), 0) := by
  rw [fD_step]
  unfold cutD
  rw [fD_look]
  simp only
  rw [if_neg (by omega)]
  rfl
theorem fD_on (s t : List Int) (cs : List Chg) (n u : Int) : onD [u] (fD s t cs n) = fD (after s cs u) (after s cs u) [] n := rfl
theorem fD_read (s t : List Int) (cs : List Chg) (n : Int) (m : Nat) (h : m ≤ t.length) : readD (fD s t cs n) [102] 0 m = (t.take m, 0) := by
  unfold readD
  rw [if_neg (by unfold fD; simp), fD_look]
  simp only
  rw [if_neg (by omega)]
  simp
theorem fD_size (s t : List Int) (cs : List Chg) (n : Int) : sizeD (fD s t cs n) [102] = ((t.length : Int), 0) := rfl

/-- What is added, so far. -/
def addsOf (As : List (List Int)) : List Int := As.flatten
theorem afterS_adds : ∀ (As : List (List Int)) (s : List Int) (u : Int) (cs : List Chg), after s (As.map addC ++ cs) u = if u ≤ As.flatten.length then s ++ As.flatten.take u.toNat else after (s ++ As.flatten) cs (u - As.flatten.length)
  | [], s, u, cs => by
    rw [List.map_nil, List.nil_append, List.flatten_nil, List.append_nil]
    by_cases h : u ≤ 0
    · rw [if_pos (by simpa using h), List.take_nil, List.append_nil]
      cases cs with
      | nil => rfl
      | cons c r => unfold after; rw [if_pos h]
    · rw [if_neg (by simpa using h)]
      simp
  | b :: r, s, u, cs => by
    show after s (addC b :: (r.map addC ++ cs)) u = _
    rw [after]
    by_cases h : u ≤ 0
    · rw [if_pos h, if_pos (by omega), show u.toNat = 0 by omega, List.take_zero, List.append_nil]
    · rw [if_neg h]
      show after (s ++ b.take (min u b.length).toNat) (r.map addC ++ cs) (u - b.length) = _
      rw [afterS_adds r, List.flatten_cons, List.length_append]
      by_cases h1 : u ≤ b.length
      · rw [if_pos (by omega), show (u - (b.length : Int)).toNat = 0 by omega, List.take_zero, List.append_nil, if_pos (by omega), show min u (b.length : Int) = u by omega, List.take_append_of_le_length (by omega)]
      · rw [show (min u (b.length : Int)).toNat = b.length by omega, List.take_length]
        by_cases h2 : u ≤ b.length + r.flatten.length
        · rw [if_pos (by omega), if_pos (by omega), List.take_append, List.take_of_length_le (l := b) (i := u.toNat) (by omega), List.append_assoc, show (u - (b.length : Int)).toNat = u.toNat - b.length by omega]
        · rw [if_neg (by omega), if_neg (by omega), List.append_assoc]
          congr 1
          omega
/-- What is kept of the file f. -/
theorem afterS_plain (As : List (List Int)) (s : List Int) (u : Int) : after s (As.map addC) u = (s ++ As.flatten).take (s.length + u.toNat) := by
  have := afterS_adds As s u []
  rw [List.append_nil] at this
  rw [this]
  by_cases h : u ≤ As.flatten.length
  · rw [if_pos h, List.take_length_add_append]
  · rw [if_neg h, List.take_of_length_le (by rw [List.length_append]; omega)]
    rfl
theorem afterS_cut (As : List (List Int)) (s : List Int) (u c : Int) : after s (As.map addC ++ [⟨true, c, []⟩]) u = if u ≤ As.flatten.length then (s ++ As.flatten).take (s.length + u.toNat) else (s ++ As.flatten).take c.toNat := by
  rw [afterS_adds]
  by_cases h : u ≤ As.flatten.length
  · rw [if_pos h, if_pos h, List.take_length_add_append]
  · rw [if_neg h, if_neg h]
    unfold after
    rw [if_neg (by omega)]
    rfl
end Go.Proofs.Ytkhopknpadncdaa
