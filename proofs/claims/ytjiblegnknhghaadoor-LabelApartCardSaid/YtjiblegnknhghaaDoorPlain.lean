/- Plain facts: the model's way of reading one character of a text, against the document's bytes. -/
import GoSem.Core.Utf8
namespace Go.Proofs.YtjiblegnknhghaaDoor
open Go

/-- A byte of a text, as a number (0 behind the end). -/
def bat (s : ByteArray) (i : Nat) : Nat := (s.get! i).toNat
theorem bat_lt (s : ByteArray) (i : Nat) : bat s i < 256 := (s.get! i).toNat_lt

def win (x : Bool) (b lo hi : Nat) : Bool := x && (decide (lo ≤ b) && decide (b ≤ hi))

def loOf (c : Nat) : Nat := if c = 240 then 144 else if c = 224 then 160 else 128
def hiOf (c : Nat) : Nat := if c = 244 then 143 else if c = 237 then 159 else 191

/-- The document's Char over four bytes (x, y, z: are the second, third, fourth there?). -/
def chrN (a b c d : Nat) (x y z : Bool) : Nat :=
  if a < 128 then 1
  else if a < 194 then 0
  else if 244 < a then 0
  else if win x b (loOf a) (hiOf a) = false then 0
  else if a < 224 then 2
  else if win y c 128 191 = false then 0
  else if a < 240 then 3
  else if win z d 128 191 = false then 0
  else 4

def decN (a b c d : Nat) (x y z : Bool) : Nat × Nat :=
  if a < 0x80 then (a, 1)
  else if a / 32 == 6 && (x && b / 64 == 2) then
    if (a % 32) * 64 + b % 64 ≥ 0x80 then ((a % 32) * 64 + b % 64, 2) else (65533, 1)
  else if a / 16 == 14 && (x && b / 64 == 2) && (y && c / 64 == 2) then
    if (a % 16) * 4096 + (b % 64) * 64 + c % 64 ≥ 0x800 && Utf8.valid (((a % 16) * 4096 + (b % 64) * 64 + c % 64 : Nat) : Int) then ((a % 16) * 4096 + (b % 64) * 64 + c % 64, 3) else (65533, 1)
  else if a / 8 == 30 && (x && b / 64 == 2) && (y && c / 64 == 2) && (z && d / 64 == 2) then
    if (a % 8) * 262144 + (b % 64) * 4096 + (c % 64) * 64 + d % 64 ≥ 0x10000 && Utf8.valid (((a % 8) * 262144 + (b % 64) * 4096 + (c % 64) * 64 + d % 64 : Nat) : Int) then ((a % 8) * 262144 + (b % 64) * 4096 + (c % 64) * 64 + d % 64, 4) else (65533, 1)
  else (65533, 1)

theorem decode_decN (s : ByteArray) (i : Nat) : Utf8.decode s i = decN (bat s i) (bat s (i + 1)) (bat s (i + 2)) (bat s (i + 3)) (decide (i + 1 < s.size)) (decide (i + 2 < s.size)) (decide (i + 3 < s.size)) := rfl

/-- The document's Char at a place in the text. -/
def chr (s : ByteArray) (i : Nat) : Nat := chrN (bat s i) (bat s (i + 1)) (bat s (i + 2)) (bat s (i + 3)) (decide (i + 1 < s.size)) (decide (i + 2 < s.size)) (decide (i + 3 < s.size))

/-- Does 'EF BF BD' stand at the place? -/
def isRep (s : ByteArray) (i : Nat) : Bool := decide (i + 2 < s.size) && (bat s i == 239 && (bat s (i + 1) == 191 && bat s (i + 2) == 189))

theorem ite_ok {α : Type} {p : α → Prop} {c : Prop} [Decidable c] {x y : α} (h : c → p x) (k : ¬ c → p y) : p (if c then x else y) := by
  split
  · exact h ‹_›
  · exact k ‹_›

theorem valid_nat (n : Nat) : Utf8.valid (n : Int) = decide (n < 55296 ∨ (57344 ≤ n ∧ n ≤ 1114111)) := by
  unfold Utf8.valid
  rw [Bool.eq_iff_iff]
  simp
  omega

theorem lo_facts (a : Nat) : (a = 240 ∧ loOf a = 144) ∨ (a = 224 ∧ loOf a = 160) ∨ (a ≠ 240 ∧ a ≠ 224 ∧ loOf a = 128) := by
  unfold loOf; by_cases h : a = 240 <;> by_cases k : a = 224 <;> simp [h, k]
theorem hi_facts (a : Nat) : (a = 244 ∧ hiOf a = 143) ∨ (a = 237 ∧ hiOf a = 159) ∨ (a ≠ 244 ∧ a ≠ 237 ∧ hiOf a = 191) := by
  unfold hiOf; by_cases h : a = 244 <;> by_cases k : a = 237 <;> simp [h, k]

def Agree (n : Nat) (r : Nat × Nat) (rep : Prop) : Prop := (n = 0 → r.1 = 65533 ∧ ¬ rep) ∧ (0 < n → (r.1 = 65533 → rep) ∧ r.2 = n)

theorem decN_chrN (a b c d : Nat) (x y z : Bool) (_ha : a < 256) (hb : b < 256) (hc : c < 256) (hd : d < 256) :
    Agree (chrN a b c d x y z) (decN a b c d x y z) (a = 239 ∧ b = 191 ∧ c = 189 ∧ x = true ∧ y = true) := by
  have hl := lo_facts a
  have hh := hi_facts a
  unfold chrN decN
  by_cases h1 : a < 128
  · rw [if_pos h1, if_pos h1]
    exact ⟨fun h => by omega, fun _ => ⟨fun h => by simp at h; omega, rfl⟩⟩
  rw [if_neg h1, if_neg h1]
  by_cases h2 : a < 194
  · rw [if_pos h2]
    refine ⟨fun _ => ⟨?_, fun h => by omega⟩, fun h => by omega⟩
    by_cases h : a / 32 = 6
    · by_cases k : (x && b / 64 == 2) = true
      · rw [if_pos (by simp [h]; simpa using k), if_neg (by omega)]
      · rw [if_neg (by simp [h]; simpa using k), if_neg (by simp; omega), if_neg (by simp; omega)]
    · rw [if_neg (by simp [h]), if_neg (by simp; omega), if_neg (by simp; omega)]
  rw [if_neg h2]
  by_cases h6 : 244 < a
  · rw [if_pos h6]
    refine ⟨fun _ => ⟨?_, fun h => by omega⟩, fun h => by omega⟩
    rw [if_neg (by simp; omega), if_neg (by simp; omega)]
    by_cases h : (a / 8 == 30 && (x && b / 64 == 2) && (y && c / 64 == 2) && (z && d / 64 == 2)) = true
    · rw [if_pos h, if_neg]
      rw [valid_nat]
      simp at h ⊢
      omega
    · rw [if_neg h]
  rw [if_neg h6]
  by_cases h3 : a < 224
  · have hlo : loOf a = 128 := by omega
    have hhi : hiOf a = 191 := by omega
    rw [hlo, hhi]
    unfold win
    by_cases k : x = true ∧ b / 64 = 2
    · obtain ⟨rfl, k⟩ := k
      rw [if_neg (by simp; omega), if_pos h3, if_pos (by simp [k]; omega), if_pos (by omega)]
      exact ⟨fun h => by omega, fun _ => ⟨fun h => by simp at h; omega, rfl⟩⟩
    · rw [if_pos (by simp; intro hx; have : ¬ b / 64 = 2 := fun h => k ⟨hx, h⟩; omega), if_neg (by simp; intro _ hx; exact fun h => k ⟨hx, h⟩), if_neg (by simp; omega), if_neg (by simp; omega)]
      exact ⟨fun _ => ⟨rfl, fun h => by omega⟩, fun h => by omega⟩
  by_cases h4 : a < 240
  · rw [if_neg (show ¬ (a / 32 == 6 && (x && b / 64 == 2)) = true by simp; omega)]
    by_cases k : x = true ∧ b / 64 = 2 ∧ y = true ∧ c / 64 = 2
    · obtain ⟨rfl, k1, rfl, k2⟩ := k
      rw [if_pos (show (a / 16 == 14 && (true && b / 64 == 2) && (true && c / 64 == 2)) = true by simp [k1, k2]; omega), if_neg h3]
      by_cases r : loOf a ≤ b ∧ b ≤ hiOf a
      · rw [if_neg (by simp [win]; exact r), if_neg (by simp [win]; omega), if_pos h4, if_pos]
        · exact ⟨fun h => by omega, fun _ => ⟨fun h => by
            simp at h
            refine ⟨?_, ?_, ?_, rfl, rfl⟩ <;> omega, rfl⟩⟩
        · rw [valid_nat]
          simp
          omega
      · rw [if_pos (by simp [win]; omega), if_neg]
        · exact ⟨fun _ => ⟨rfl, fun h => by omega⟩, fun h => by omega⟩
        · rw [valid_nat]
          simp
          omega
    · rw [if_neg (show ¬ (a / 16 == 14 && (x && b / 64 == 2) && (y && c / 64 == 2)) = true by
        simp
        intro _ hx hb' hy hc'
        exact k ⟨hx, hb', hy, hc'⟩), if_neg (show ¬ (a / 8 == 30 && (x && b / 64 == 2) && (y && c / 64 == 2) && (z && d / 64 == 2)) = true by simp; omega)]
      have e : (if win x b (loOf a) (hiOf a) = false then 0 else if a < 224 then 2 else if win y c 128 191 = false then 0 else if a < 240 then 3 else if win z d 128 191 = false then 0 else 4) = 0 := by
        by_cases r : win x b (loOf a) (hiOf a) = false
        · rw [if_pos r]
        · rw [if_neg r, if_neg h3, if_pos]
          simp [win] at r ⊢
          intro hy hc1
          have : ¬ c / 64 = 2 := fun h => k ⟨r.1, by omega, hy, h⟩
          omega
      rw [e]
      exact ⟨fun _ => ⟨rfl, fun h => k ⟨h.2.2.2.1, by omega, h.2.2.2.2, by omega⟩⟩, fun h => by omega⟩
  rw [if_neg (show ¬ (a / 32 == 6 && (x && b / 64 == 2)) = true by simp; omega), if_neg (show ¬ (a / 16 == 14 && (x && b / 64 == 2) && (y && c / 64 == 2)) = true by simp; omega)]
  by_cases k : x = true ∧ b / 64 = 2 ∧ y = true ∧ c / 64 = 2 ∧ z = true ∧ d / 64 = 2
  · obtain ⟨rfl, k1, rfl, k2, rfl, k3⟩ := k
    rw [if_pos (show (a / 8 == 30 && (true && b / 64 == 2) && (true && c / 64 == 2) && (true && d / 64 == 2)) = true by simp [k1, k2, k3]; omega), if_neg h3]
    by_cases r : loOf a ≤ b ∧ b ≤ hiOf a
    · rw [if_neg (by simp [win]; exact r), if_neg (by simp [win]; omega), if_neg h4, if_neg (by simp [win]; omega), if_pos]
      · exact ⟨fun h => by omega, fun _ => ⟨fun h => by
          simp at h
          omega, rfl⟩⟩
      · rw [valid_nat]
        simp
        omega
    · rw [if_pos (by simp [win]; omega), if_neg]
      · exact ⟨fun _ => ⟨rfl, fun h => by omega⟩, fun h => by omega⟩
      · rw [valid_nat]
        simp
        omega
  · rw [if_neg (show ¬ (a / 8 == 30 && (x && b / 64 == 2) && (y && c / 64 == 2) && (z && d / 64 == 2)) = true by
      simp
      intro _ hx hb' hy hc' hz hd'
      exact k ⟨hx, hb', hy, hc', hz, hd'⟩)]
    have e : (if win x b (loOf a) (hiOf a) = false then 0 else if a < 224 then 2 else if win y c 128 191 = false then 0 else if a < 240 then 3 else if win z d 128 191 = false then 0 else 4) = 0 := by
      by_cases r : win x b (loOf a) (hiOf a) = false
      · rw [if_pos r]
      · rw [if_neg r, if_neg h3]
        by_cases r2 : win y c 128 191 = false
        · rw [if_pos r2]
        · rw [if_neg r2, if_neg h4, if_pos]
          simp [win] at r r2 ⊢
          intro hz hd1
          have : ¬ d / 64 = 2 := fun h => k ⟨r.1, by omega, r2.1, by omega, hz, h⟩
          omega
    rw [e]
    exact ⟨fun _ => ⟨rfl, fun h => by omega⟩, fun h => by omega⟩

theorem chrN_le (a b c d : Nat) (x y z : Bool) : chrN a b c d x y z ≤ 4 ∧ (2 ≤ chrN a b c d x y z → x = true) ∧ (3 ≤ chrN a b c d x y z → y = true) ∧ (4 ≤ chrN a b c d x y z → z = true) := by
  unfold chrN win
  cases x <;> cases y <;> cases z <;> simp only [Bool.false_and, Bool.true_and, eq_self, if_true] <;> (repeat' split) <;> refine ⟨?_, ?_, ?_, ?_⟩ <;> first | omega | (intro _; first | trivial | omega)

theorem decode_chr (s : ByteArray) (i : Nat) : Agree (chr s i) (Utf8.decode s i) (isRep s i = true) := by
  have h := decN_chrN (bat s i) (bat s (i + 1)) (bat s (i + 2)) (bat s (i + 3)) (decide (i + 1 < s.size)) (decide (i + 2 < s.size)) (decide (i + 3 < s.size)) (bat_lt _ _) (bat_lt _ _) (bat_lt _ _) (bat_lt _ _)
  rw [← decode_decN] at h
  have e : (isRep s i = true) = (bat s i = 239 ∧ bat s (i + 1) = 191 ∧ bat s (i + 2) = 189 ∧ decide (i + 1 < s.size) = true ∧ decide (i + 2 < s.size) = true) := by
    unfold isRep
    simp
    constructor
    · rintro ⟨h1, h2, h3, h4⟩; exact ⟨h2, h3, h4, by omega, h1⟩
    · rintro ⟨h2, h3, h4, _, h1⟩; exact ⟨h1, h2, h3, h4⟩
  rw [e]
  exact h

theorem chr_le (s : ByteArray) (i : Nat) (h : i < s.size) : chr s i ≤ 4 ∧ i + chr s i ≤ s.size := by
  obtain ⟨h1, h2, h3, h4⟩ := chrN_le (bat s i) (bat s (i + 1)) (bat s (i + 2)) (bat s (i + 3)) (decide (i + 1 < s.size)) (decide (i + 2 < s.size)) (decide (i + 3 < s.size))
  simp only [decide_eq_true_eq] at h2 h3 h4
  unfold chr
  refine ⟨h1, ?_⟩
  omega
end Go.Proofs.YtjiblegnknhghaaDoor
