/- A directory's name, read: plain. -/
import Derived.Test.YtjiblegnknhghaaDoorParseD
namespace Go.Proofs.YtjiblegnknhghaaDoor
open Go Go.RowKit
set_option linter.unusedVariables false

theorem size_toList (s : ByteArray) : s.data.toList.length = s.size := by rw [Array.length_toList]; rfl
theorem arr_get (s : ByteArray) (j : Nat) (c : UInt8) (h : s.data.toList[j]? = some c) : s.data[j]! = c := by
  obtain ⟨hj, rfl⟩ := List.getElem?_eq_some_iff.1 h
  have hj2 : j < s.data.size := by simpa using hj
  rw [getElem!_pos s.data j hj2]
  simp

/-- The last dash. -/
def lst (s : ByteArray) : Int := Lib.lastIndexByte s 45
/-- Behind the place i: a number as strconv writes it? -/
def udAt (s : ByteArray) (i : Nat) : Option (ByteArray × Nat) :=
  if topicE (s.extract 0 i) = 0 then
    match refNum 2147483647 0 (s.data.toList.drop (i + 1)) with
    | some n => if s.data.toList.drop (i + 1) = Lib.decDigits n then some (s.extract 0 i, n) else none
    | none => none
  else none
def udN (s : ByteArray) : Option (ByteArray × Nat) := if lst s < 0 then none else udAt s (lst s).toNat
def udAns (s : ByteArray) : Value :=
  match udN s with
  | some (t, n) => .tuple #[.string t, .int .i32 (n : Int), .int .i64 0]
  | none => .tuple #[.string ByteArray.empty, .int .i32 0, .int .i64 42]
theorem udAns_some {s t : ByteArray} {n : Nat} (h : udN s = some (t, n)) : udAns s = .tuple #[.string t, .int .i32 (n : Int), .int .i64 0] := by unfold udAns; rw [h]
theorem udAns_none {s : ByteArray} (h : udN s = none) : udAns s = .tuple #[.string ByteArray.empty, .int .i32 0, .int .i64 42] := by unfold udAns; rw [h]

theorem lst_cases (s : ByteArray) : (lst s = -1 ∧ udN s = none) ∨ ∃ i : Nat, i < s.size ∧ lst s = i ∧ udN s = udAt s i ∧ s.data.toList = s.data.toList.take i ++ 45 :: s.data.toList.drop (i + 1) := by
  rcases Lib.lastIndexByte_spec s 45 with ⟨h, _⟩ | ⟨i, hi, h, hc, _⟩
  · left
    have h' : lst s = -1 := h
    exact ⟨h', by unfold udN; rw [h', if_pos (by decide)]⟩
  · right
    have h' : lst s = i := h
    refine ⟨i, hi, h', by unfold udN; rw [h', if_neg (by omega)]; rfl, ?_⟩
    have hl : i < s.data.toList.length := by rw [size_toList]; exact hi
    have e : s.data.toList[i] = 45 := by
      have := arr_get s i _ (List.getElem?_eq_getElem hl)
      rw [this] at hc
      exact UInt8.toNat_inj.1 (by show _ = 45; omega)
    conv => lhs; rw [← List.take_append_drop i s.data.toList, List.drop_eq_getElem_cons hl, e]

theorem dig_no (n : Nat) (c : UInt8) (h : c ∈ Lib.decDigits n) : c.toNat ≠ 45 := by
  rw [Lib.decDigits_eq] at h
  obtain ⟨t, _, rfl⟩ := List.mem_map.1 h
  rw [dg_toNat]
  omega
theorem dirS_data (t : ByteArray) (n : Nat) : (dirS t n).data.toList = t.data.toList ++ 45 :: Lib.decDigits n := by simp [dirS, strOf]
theorem lst_dir (t : ByteArray) (n : Nat) : lst (dirS t n) = t.size := by
  have hsz : (dirS t n).size = t.size + 1 + (Lib.decDigits n).length := by
    rw [← size_toList, dirS_data, List.length_append, List.length_cons, size_toList]
    omega
  have ht : (dirS t n).data[t.size]! = 45 := by
    apply arr_get
    rw [dirS_data, List.getElem?_append_right (by rw [size_toList]; exact Nat.le_refl _), size_toList, Nat.sub_self]
    rfl
  have hcast : ((45 : UInt8).toNat : Int) = 45 := rfl
  rcases Lib.lastIndexByte_spec (dirS t n) 45 with ⟨_, h⟩ | ⟨i, hi, h, hc, hn⟩
  · exact absurd (by rw [ht]; rfl) (h t.size (by omega))
  · show Lib.lastIndexByte _ _ = _
    rw [h]
    rcases Nat.lt_trichotomy i t.size with hlt | heq | hgt
    · exact absurd (by rw [ht]; rfl) (hn t.size hlt (by omega))
    · rw [heq]
    · exfalso
      have hj : i - (t.size + 1) < (Lib.decDigits n).length := by omega
      have hg : (dirS t n).data[i]! = (Lib.decDigits n)[i - (t.size + 1)] := by
        apply arr_get
        rw [dirS_data, List.getElem?_append_right (by rw [size_toList]; omega), size_toList, show i - t.size = (i - (t.size + 1)) + 1 by omega, List.getElem?_cons_succ, List.getElem?_eq_getElem hj]
      rw [hg] at hc
      exact dig_no n _ (List.getElem_mem hj) (by omega)

theorem extract_data (s : ByteArray) (i : Nat) : (s.extract 0 i).data.toList = s.data.toList.take i := by
  rw [← Lib.toList_data, Lib.extract_toList, List.drop_zero, Nat.sub_zero]
theorem extract_dir (t : ByteArray) (n : Nat) : (dirS t n).extract 0 t.size = t := by
  have h : ((dirS t n).extract 0 t.size).data.toList = t.data.toList := by
    rw [extract_data, dirS_data, ← size_toList, List.take_left]
  rw [← strOf_data ((dirS t n).extract 0 t.size), h, strOf_data]
theorem drop_dir (t : ByteArray) (n : Nat) : (dirS t n).data.toList.drop (t.size + 1) = Lib.decDigits n := by
  rw [dirS_data, ← List.drop_drop, ← size_toList, List.drop_left]
  rfl
theorem ud_dir {t : ByteArray} {n : Nat} (ht : topicE t = 0) (hn : n ≤ 2147483647) : udN (dirS t n) = some (t, n) := by
  unfold udN
  rw [lst_dir, if_neg (by omega), Int.toNat_natCast]
  unfold udAt
  rw [extract_dir, if_pos ht, drop_dir, refNum_dec _ _ hn]
  simp
theorem ud_at {s : ByteArray} {i : Nat} {x : ByteArray × Nat} (hs : s.data.toList = s.data.toList.take i ++ 45 :: s.data.toList.drop (i + 1)) (h : udAt s i = some x) :
    topicE (s.extract 0 i) = 0 ∧ x.2 ≤ 2147483647 ∧ s.data.toList.drop (i + 1) = Lib.decDigits x.2 ∧ x.1 = s.extract 0 i ∧ dirS (s.extract 0 i) x.2 = s ∧ refNum 2147483647 0 (s.data.toList.drop (i + 1)) = some x.2 := by
  unfold udAt at h
  split at h
  · rename_i ht
    split at h
    · rename_i n hn
      split at h
      · rename_i hd
        injection h with h
        subst h
        refine ⟨ht, refNum_le _ (by decide) _ _ _ (by decide) hn, hd, rfl, ?_, hn⟩
        have e : (dirS (s.extract 0 i) n).data.toList = s.data.toList := by
          rw [dirS_data, extract_data, ← hd]
          exact hs.symm
        rw [← strOf_data (dirS (s.extract 0 i) n), e, strOf_data]
      · cases h
    · cases h
  · cases h
end Go.Proofs.YtjiblegnknhghaaDoor
