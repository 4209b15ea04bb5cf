/- Clients' names: plain facts: what the range over the characters finds, against the document's bytes. -/
import Derived.Test.YtjiblegnknhghaaDoorTopic
namespace Go.Proofs.YtjiblegnknhghaaDoor
open Go Go.RowKit

/-- Is the byte at the place one that no client's name has? -/
def badAt (s : ByteArray) (i : Nat) : Bool := decide (bat s i < 32 ∨ bat s i = 127 ∨ (bat s i = 194 ∧ i + 1 < s.size ∧ bat s (i + 1) ≤ 159))
def badB (s : ByteArray) : Bool := (List.range s.size).any (badAt s)
def okTo (s : ByteArray) (k : Nat) : Prop := ∀ j, j < k → badAt s j = false
theorem badB_false {s : ByteArray} (h : okTo s s.size) : badB s = false := by
  unfold badB
  rw [List.any_eq_false]
  exact fun j hj => by rw [h j (List.mem_range.1 hj)]; decide
theorem badB_true {s : ByteArray} {i : Nat} (hi : i < s.size) (h : badAt s i = true) : badB s = true := by
  unfold badB
  rw [List.any_eq_true]
  exact ⟨i, List.mem_range.2 hi, h⟩
/-- The error's number of a client's name. -/
def clientE (s : ByteArray) : Nat := if (utf s).2 = false then 6 else if 32 < heads s s.size then 4 else if badB s = true then 41 else 0

/-- A character's number that no client's name has. -/
def ctlN (v : Nat) : Prop := v < 32 ∨ (127 ≤ v ∧ v ≤ 159)
instance (v : Nat) : Decidable (ctlN v) := by unfold ctlN; infer_instance

theorem ctl_decN (a b c d : Nat) (x y z : Bool) (h : 0 < chrN a b c d x y z) : ctlN (decN a b c d x y z).1 ↔ (a < 32 ∨ a = 127 ∨ (a = 194 ∧ x = true ∧ b ≤ 159)) := by
  unfold ctlN
  by_cases h1 : a < 128
  · unfold decN
    rw [if_pos h1]
    simp only
    omega
  by_cases h2 : a < 194
  · rw [chrN, if_neg h1, if_pos h2] at h
    omega
  by_cases h3 : a < 224
  · have hw : win x b (loOf a) (hiOf a) = true := by
      cases hw : win x b (loOf a) (hiOf a)
      · rw [chrN, if_neg h1, if_neg h2, if_neg (by omega), if_pos hw] at h
        omega
      · rfl
    have e1 : loOf a = 128 := by have := lo_facts a; omega
    have e2 : hiOf a = 191 := by have := hi_facts a; omega
    rw [e1, e2] at hw
    simp only [win, Bool.and_eq_true, decide_eq_true_eq] at hw
    obtain ⟨rfl, hb1, hb2⟩ := hw
    have c1 : (a / 32 == 6 && (true && b / 64 == 2)) = true := by simp; omega
    have d1 : a % 32 = a - 192 := by omega
    have d2 : b % 64 = b - 128 := by omega
    unfold decN
    rw [if_neg h1, if_pos c1, if_pos (by omega), d1, d2]
    simp only [true_and]
    omega
  · have : ¬ a / 32 = 6 ∨ 256 ≤ a := by omega
    have hv : 160 ≤ (decN a b c d x y z).1 ∨ a / 32 = 6 := by
      unfold decN
      rw [if_neg h1]
      split
      · rename_i hc
        simp only [Bool.and_eq_true, beq_iff_eq] at hc
        exact .inr hc.1
      · left
        split
        · split
          · rename_i hc
            simp only [Bool.and_eq_true, decide_eq_true_eq] at hc
            have := hc.1
            simp only
            omega
          · simp
        · split
          · split
            · rename_i hc
              simp only [Bool.and_eq_true, decide_eq_true_eq] at hc
              have := hc.1
              simp only
              omega
            · simp
          · simp
    by_cases h4 : a ≤ 244
    · omega
    · rw [chrN, if_neg h1, if_neg h2, if_pos (by omega)] at h
      omega

/-- What one round of the range shows. -/
theorem ctl_yes (s : ByteArray) (i : Nat) (h : 0 < chr s i) (hv : ctlN (Utf8.decode s i).1) : badAt s i = true := by
  rw [decode_decN] at hv
  have := (ctl_decN _ _ _ _ _ _ _ h).1 hv
  unfold badAt
  simp only [decide_eq_true_eq] at this ⊢
  exact this
theorem ctl_no (s : ByteArray) (i : Nat) (h : 0 < chr s i) (hv : ¬ ctlN (Utf8.decode s i).1) (ho : okTo s i) : okTo s (i + chr s i) := by
  rw [decode_decN] at hv
  have hi : badAt s i = false := by
    unfold badAt
    rw [decide_eq_false_iff_not]
    intro hb
    exact hv ((ctl_decN _ _ _ _ _ _ _ h).2 (by simpa using hb))
  have h4 : chr s i ≤ 4 := (chrN_le _ _ _ _ _ _ _).1
  obtain ⟨_, h1, h2, h3⟩ := chrN_head _ _ _ _ _ _ _ h
  have hd : ∀ j, headB (bat s j) = false → badAt s j = false := by
    intro j hj
    simp only [headB, Bool.or_eq_false_iff, decide_eq_false_iff_not] at hj
    unfold badAt
    rw [decide_eq_false_iff_not]
    omega
  intro j hj
  rcases Nat.lt_or_ge j i with hji | hji
  · exact ho j hji
  · have hc : j = i ∨ (j = i + 1 ∧ 2 ≤ chr s i) ∨ (j = i + 2 ∧ 3 ≤ chr s i) ∨ (j = i + 3 ∧ 4 ≤ chr s i) := by omega
    rcases hc with rfl | ⟨rfl, hc⟩ | ⟨rfl, hc⟩ | ⟨rfl, hc⟩
    · exact hi
    · exact hd _ (h1 hc)
    · exact hd _ (h2 hc)
    · exact hd _ (h3 hc)
end Go.Proofs.YtjiblegnknhghaaDoor
