/- badName of any text: a byte that no name has, or the length. -/
import Derived.Test.YtkhopknpadncdaaName
namespace Go.Proofs.Ytkhopknpadncdaa
open Go Go.RowKit Go.Maps Go.Proofs.YtkhopknpadncdaaW.PrintWords Go.Proofs.Ytkhopknpadncdaa.PDiskMemory Go.Proofs.YtkhopknpadncdaaW.PrintMore
set_option linter.unusedVariables false

theorem dec_low (s : ByteArray) (i : Nat) (h : (s.get! i).toNat < 128) : Utf8.decode s i = ((s.get! i).toNat, 1) := by
  unfold Utf8.decode
  simp only [Nat.add_zero]
  rw [if_pos h]
theorem dec_high (s : ByteArray) (i : Nat) (h : 128 ≤ (s.get! i).toNat) : 128 ≤ (Utf8.decode s i).1 := by
  unfold Utf8.decode Utf8.runeError
  simp only [Nat.add_zero]
  rw [if_neg (by omega)]
  split
  · split
    · simp only; omega
    · simp only; omega
  · split
    · split
      · rename_i h2
        simp only [Bool.and_eq_true, decide_eq_true_eq] at h2
        simp only; omega
      · simp only; omega
    · split
      · split
        · rename_i h2
          simp only [Bool.and_eq_true, decide_eq_true_eq] at h2
          simp only; omega
        · simp only; omega
      · simp only; omega
theorem badR_low (c : UInt8) (h : c.toNat < 128) : badR c.toNat = badC c := by
  unfold badR badC isLetter isMark
  generalize c.toNat = n
  simp only [Bool.not_or]
  cases decide (97 ≤ n ∧ n ≤ 122) <;> cases decide (65 ≤ n ∧ n ≤ 90) <;> cases decide (48 ≤ n ∧ n ≤ 57) <;> simp [Bool.and_assoc]
theorem badR_high {n : Nat} (h : 128 ≤ n) : badR n = true := by
  unfold badR isLetter isMark
  rw [decide_eq_false (by omega), decide_eq_false (by omega), decide_eq_false (by omega)]
  simp
  omega
theorem badC_high {c : UInt8} (h : 128 ≤ c.toNat) : badC c = true := by
  unfold badC
  rw [decide_eq_false (by omega), decide_eq_false (by omega), decide_eq_false (by omega)]
  simp
  omega
theorem get_list (s : ByteArray) (i : Nat) (h : i < s.size) : s.data.toList[i]? = some (s.get! i) := by
  have e : s.get! i = s.data[i]'h := by
    unfold ByteArray.get!
    exact getElem!_pos s.data i h
  rw [e, Array.getElem?_toList, Array.getElem?_eq_getElem h]
/-- What ContainsFunc finds, byte by byte. -/
theorem idx_bytes (s : ByteArray) : ∀ (f pos : Nat), s.size ≤ pos + f → decide (0 ≤ Lib.idxFuncFrom badR true s f pos) = (s.data.toList.drop pos).any badC := by
  intro f
  induction f with
  | zero =>
    intro pos h
    rw [Lib.idxFuncFrom_end _ _ _ _ _ (by omega), List.drop_of_length_le (by rw [Array.length_toList]; exact h)]
    rfl
  | succ f ih =>
    intro pos h
    by_cases hp : pos < s.size
    · have hl : pos < s.data.toList.length := by rw [Array.length_toList]; exact hp
      have hg : s.data.toList[pos] = s.get! pos := by
        have := get_list s pos hp
        rw [List.getElem?_eq_getElem hl] at this
        exact Option.some.inj this
      rw [List.drop_eq_getElem_cons hl, List.any_cons, hg]
      unfold Lib.idxFuncFrom
      rw [if_pos hp]
      by_cases hb : (s.get! pos).toNat < 128
      · rw [dec_low s pos hb, badR_low _ hb]
        simp only
        cases hc : badC (s.get! pos) with
        | true => rw [if_pos rfl]; simp
        | false => rw [if_neg (by decide), ih (pos + 1) (by omega)]; simp
      · rw [badR_high (dec_high s pos (by omega)), if_pos rfl, badC_high (by omega)]
        simp
    · rw [Lib.idxFuncFrom_end _ _ _ _ _ hp, List.drop_of_length_le (by rw [Array.length_toList]; show s.size ≤ pos; omega)]
      rfl

set_option maxRecDepth 100000 in
theorem bad_any (s : ByteArray) (w : World) : Calls Try.prog 68 #[.string s] w fun e w' => e = .returned (.bool (badN s.data.toList)) ∧ Below w.heap.size w w' := by
  by_cases h0 : s.data.toList = []
  · have hb : badN s.data.toList = true := by rw [h0]; rfl
    rw [hb]
    have h1 : s.toList.isEmpty = true := by rw [Lib.toList_data, h0]; rfl
    have h2 : s.toList = [] := by rw [Lib.toList_data, h0]
    have h3 : (!s.toList.isEmpty) = false := by rw [h1]; rfl
    clear hb h0
    go_enter Try.func68, Try.ntmps68
    go_wp2
    go_ret
    exact ⟨rfl, Below.refl _ _⟩
  · have e1 : s.data.toList.isEmpty = false := by simpa using h0
    have f1 : s.toList.isEmpty = false := by rw [Lib.toList_data]; exact e1
    have f2 : (!s.toList.isEmpty) = true := by rw [f1]; rfl
    have hsz : s.data.toList.length = s.size := Array.length_toList
    by_cases hl : 120 < s.size
    · have hb : badN s.data.toList = true := by unfold badN; rw [hsz, decide_eq_true hl]; simp
      rw [hb]
      clear hb hsz h0 e1
      have hl2 : decide ((120 : Int) < (s.size : Int)) = true := decide_eq_true (by omega)
      go_enter Try.func68, Try.ntmps68
      go_wp2
      go_ret
      exact ⟨rfl, Below.refl _ _⟩
    · have hb : badN s.data.toList = s.data.toList.any badC := by unfold badN; rw [e1, hsz, decide_eq_false hl]; rfl
      have HI := Lib.hid (idx_bytes s s.size 0 (by omega))
      rw [hb]
      have HC := Lib.hid (Try.strings_ContainsFunc_grows 78 #[] (fun args w => by kernel_rfl) badR s w (fun W x hx hW => bad1_any x W hx))
      obtain ⟨q, hq⟩ : ∃ q, q = s.data.toList.any badC := ⟨_, rfl⟩
      rw [← hq]
      have HQ := Lib.hid hq
      clear hb hsz hq h0 e1
      have hl2 : decide ((120 : Int) < (s.size : Int)) = false := decide_eq_false (by omega)
      go_enter Try.func68, Try.ntmps68
      go_wp2_with (go_at_call 77; refine HC.out.mono ?_; rintro e w' ⟨rfl, hb⟩)
      go_ret
      refine ⟨?_, hb⟩
      rw [HQ.out]
      have := HI.out
      rw [List.drop_zero] at this
      rw [← this]
      rfl
end Go.Proofs.Ytkhopknpadncdaa
