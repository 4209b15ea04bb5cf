/- Plain: decimal digits. The document's Decimal and number, held against strconv's. -/
import Derived.Lib.ItoaNum
import Derived.Lib.ParseIntB
namespace Go.Proofs.YtjiblegnknhghaaDoor
open Go Go.Lib

/-- How many digits Decimal lays. -/
def decLen (n least : Nat) : Nat := max (nDigits n) least
/-- Decimal: n in at least so many digits. -/
def dec (n least : Nat) : List UInt8 := (List.range (decLen n least)).map fun t => dg n (decLen n least - 1 - t)

theorem dec_length (n least : Nat) : (dec n least).length = decLen n least := by simp [dec]
theorem dec_one (n : Nat) : dec n 1 = decDigits n := by
  have h := nDigits_pos n
  have e : decLen n 1 = nDigits n := by unfold decLen; omega
  rw [decDigits_eq]
  unfold dec
  rw [e]

/-- Decimal's loop goes on. -/
theorem dec_more (n least k : Nat) (h1 : 1 ≤ least) : k < decLen n least ↔ (0 < n / 10 ^ k ∨ k < least) := by
  unfold decLen
  have hp : 0 < 10 ^ k := Nat.pow_pos (by decide)
  constructor
  · intro h
    by_cases hk : k < least
    · exact .inr hk
    · left
      have hk2 : k < nDigits n := by omega
      refine Nat.div_pos ?_ hp
      rcases Nat.lt_or_ge n (10 ^ k) with h2 | h2
      · exfalso
        rcases k with _ | k
        · omega
        · have : nDigits n ≤ k + 1 := by
            clear hk hp h
            induction k generalizing n with
            | zero => rw [nDigits_small (by simpa using h2)]; exact Nat.le_refl _
            | succ k ih =>
              by_cases hn : n < 10
              · rw [nDigits_small hn]; omega
              · rw [nDigits_big hn]
                have h3 : n / 10 < 10 ^ (k + 1) := by rw [Nat.pow_succ] at h2; omega
                have := ih (n / 10) (by rw [nDigits_big hn] at hk2; omega) h3
                omega
          omega
      · exact h2
  · rintro (h | h)
    · have h2 : 10 ^ k ≤ n := by
        rcases Nat.lt_or_ge n (10 ^ k) with h3 | h3
        · rw [Nat.div_eq_of_lt h3] at h; omega
        · exact h3
      have h3 := lt_pow_nDigits n
      have h4 : 10 ^ k < 10 ^ nDigits n := by omega
      have := (Nat.pow_lt_pow_iff_right (by decide : 1 < 10)).1 h4
      omega
    · omega

theorem rev_range_map (f : Nat → UInt8) (K : Nat) : ((List.range K).map f).reverse = (List.range K).map fun t => f (K - 1 - t) := by
  apply List.ext_getElem
  · simp
  · intro i h1 h2
    simp
theorem dec_rev (n least : Nat) : dec n least = ((List.range (decLen n least)).map (dg n)).reverse := by
  rw [rev_range_map]
  rfl
theorem range_snoc (f : Nat → UInt8) (k : Nat) : (List.range (k + 1)).map f = (List.range k).map f ++ [f k] := by
  rw [List.range_succ, List.map_append]; rfl

def isDig (c : UInt8) : Prop := 48 ≤ c.toNat ∧ c.toNat ≤ 57
instance (c : UInt8) : Decidable (isDig c) := by unfold isDig; infer_instance

/-- The document's number: what the digits write, up to most. -/
def refNum (most acc : Nat) : List UInt8 → Option Nat
  | [] => some acc
  | c :: r => if isDig c then (if (most - (c.toNat - 48)) / 10 < acc then none else refNum most (acc * 10 + (c.toNat - 48)) r) else none

theorem refNum_append (most : Nat) : ∀ (l r : List UInt8) (acc : Nat), refNum most acc (l ++ r) = (refNum most acc l).bind (fun a => refNum most a r)
  | [], _, _ => rfl
  | c :: l, r, acc => by
    simp only [List.cons_append, refNum]
    by_cases h : isDig c
    · rw [if_pos h, if_pos h]
      by_cases h2 : (most - (c.toNat - 48)) / 10 < acc
      · rw [if_pos h2, if_pos h2]; rfl
      · rw [if_neg h2, if_neg h2]
        exact refNum_append most l r _
    · rw [if_neg h, if_neg h]; rfl
theorem refNum_le (most : Nat) (h9 : 9 ≤ most) : ∀ (l : List UInt8) (acc n : Nat), acc ≤ most → refNum most acc l = some n → n ≤ most
  | [], acc, n, h, e => by simp only [refNum, Option.some.injEq] at e; omega
  | c :: l, acc, n, h, e => by
    simp only [refNum] at e
    split at e
    · rename_i hd
      split at e
      · cases e
      · refine refNum_le most h9 l _ n ?_ e
        unfold isDig at hd
        omega
    · cases e

theorem digit_toNat (d : Nat) (h : d < 10) : (UInt8.ofNat (48 + d)).toNat = 48 + d := by
  rw [UInt8.toNat_ofNat']
  omega
theorem refNum_one (most acc d : Nat) (hd : d < 10) (h : acc * 10 + d ≤ most) : refNum most acc [UInt8.ofNat (48 + d)] = some (acc * 10 + d) := by
  simp only [refNum, isDig, digit_toNat d hd]
  rw [if_pos (by omega), if_neg (by omega)]
  congr 1
  omega
theorem refNum_dec (most : Nat) (n : Nat) : n ≤ most → refNum most 0 (decDigits n) = some n := by
  induction n using Nat.strongRecOn with
  | _ n ih =>
    intro h
    by_cases hn : n < 10
    · rw [decDigits, dif_pos hn]
      have := refNum_one most 0 n hn (by omega)
      simpa using this
    · rw [decDigits, dif_neg hn, refNum_append, ih (n / 10) (by omega) (by omega)]
      simp only [Option.bind_some]
      rw [refNum_one most (n / 10) (n % 10) (by omega) (by omega)]
      congr 1
      omega
theorem refNum_zeros (most : Nat) (h9 : 9 ≤ most) : ∀ (k : Nat) (l : List UInt8), refNum most 0 (List.replicate k 48 ++ l) = refNum most 0 l
  | 0, l => rfl
  | k + 1, l => by
    rw [List.replicate_succ, List.cons_append]
    simp only [refNum]
    have e : (48 : UInt8).toNat = 48 := rfl
    rw [if_pos (by unfold isDig; rw [e]; omega), e, if_neg (by omega)]
    exact refNum_zeros most h9 k l

/-- strconv's digits, where they fit. -/
theorem parseM_append (M : Nat) : ∀ (l r : List UInt8) (acc a : Nat), parseUintM M acc l = .ok a → parseUintM M acc (l ++ r) = parseUintM M a r
  | [], _, acc, a, h => by simp only [parseUintM, NumEnd.ok.injEq] at h; subst h; rfl
  | c :: l, r, acc, a, h => by
    simp only [List.cons_append, parseUintM] at h ⊢
    split at h
    · split at h
      · cases h
      · split at h
        · cases h
        · rename_i h1 h2 h3
          rw [if_pos h1, if_neg h2, if_neg h3]
          exact parseM_append M l r _ a h
    · cases h
theorem parseM_one (M acc d : Nat) (hd : d < 10) (hM : M < 18446744073709551616) (h : acc * 10 + d ≤ M) : parseUintM M acc [UInt8.ofNat (48 + d)] = .ok (acc * 10 + d) := by
  simp only [parseUintM, digit_toNat d hd]
  rw [if_pos (by omega), if_neg (by omega), if_neg (by omega)]
  congr 1
  omega
theorem parseM_dec (M : Nat) (hM : M < 18446744073709551616) (n : Nat) : n ≤ M → parseUintM M 0 (decDigits n) = .ok n := by
  induction n using Nat.strongRecOn with
  | _ n ih =>
    intro h
    by_cases hn : n < 10
    · rw [decDigits, dif_pos hn]
      have := parseM_one M 0 n hn hM (by omega)
      simpa using this
    · rw [decDigits, dif_neg hn, parseM_append M _ _ 0 (n / 10) (ih (n / 10) (by omega) (by omega)), parseM_one M (n / 10) (n % 10) (by omega) hM (by omega)]
      congr 1
      omega
theorem parseM_zeros (M : Nat) : ∀ (k : Nat) (l : List UInt8), parseUintM M 0 (List.replicate k 48 ++ l) = parseUintM M 0 l
  | 0, l => rfl
  | k + 1, l => by
    rw [List.replicate_succ, List.cons_append]
    simp only [parseUintM]
    have e : (48 : UInt8).toNat = 48 := rfl
    rw [e, if_pos (by omega), if_neg (by omega), if_neg (by omega)]
    exact parseM_zeros M k l

theorem decDigits_head (n : Nat) : ∃ c r, decDigits n = c :: r ∧ isDig c := by
  induction n using Nat.strongRecOn with
  | _ n ih =>
    by_cases hn : n < 10
    · rw [decDigits, dif_pos hn]
      exact ⟨_, [], rfl, by unfold isDig; rw [digit_toNat n hn]; omega⟩
    · rw [decDigits, dif_neg hn]
      obtain ⟨c, r, h, hd⟩ := ih (n / 10) (by omega)
      exact ⟨c, r ++ [UInt8.ofNat (48 + n % 10)], by rw [h]; rfl, hd⟩

/-- Signless digits that spell n, through ParseInt. -/
theorem parseInt_of (B n : Nat) (l : List UInt8) (hB : n < 2 ^ (B - 1)) (hne : ∃ c r, l = c :: r ∧ isDig c) (h : parseUintM (2 ^ B - 1) 0 l = .ok n) : parseIntB B l = .ok (n : Int) := by
  obtain ⟨c, r, rfl, hd⟩ := hne
  unfold isDig at hd
  have h43 : ¬ (c.toNat = 43 ∨ c.toNat = 45) := by omega
  have h45 : ¬ c.toNat = 45 := by omega
  have hu : parseUintB B (c :: r) = .ok n := by unfold parseUintB; rw [if_neg (by simp)]; exact h
  unfold parseIntB
  simp only
  rw [if_neg h43, hu]
  simp only
  rw [if_neg (fun hh => by have := hh.2; omega), if_neg (fun hh => h45 hh.1), if_neg h45]
theorem parseInt_dec (B n : Nat) (h1 : 1 ≤ B) (h64 : B ≤ 64) (hB : n < 2 ^ (B - 1)) : parseIntB B (decDigits n) = .ok (n : Int) := by
  have hp : 2 ^ B ≤ 2 ^ 64 := Nat.pow_le_pow_right (by decide) h64
  have hq : 2 ^ (B - 1) ≤ 2 ^ B - 1 := by
    obtain ⟨b, rfl⟩ : ∃ b, B = b + 1 := ⟨B - 1, by omega⟩
    have : 1 ≤ 2 ^ b := Nat.one_le_two_pow
    rw [Nat.add_sub_cancel, Nat.pow_succ]
    omega
  exact parseInt_of B n _ hB (decDigits_head n) (parseM_dec _ (by omega) n (by omega))
theorem parseInt_zeros (B n k : Nat) (h1 : 1 ≤ B) (h64 : B ≤ 64) (hB : n < 2 ^ (B - 1)) : parseIntB B (List.replicate k 48 ++ decDigits n) = .ok (n : Int) := by
  have hp : 2 ^ B ≤ 2 ^ 64 := Nat.pow_le_pow_right (by decide) h64
  have hq : 2 ^ (B - 1) ≤ 2 ^ B - 1 := by
    obtain ⟨b, rfl⟩ : ∃ b, B = b + 1 := ⟨B - 1, by omega⟩
    have : 1 ≤ 2 ^ b := Nat.one_le_two_pow
    rw [Nat.add_sub_cancel, Nat.pow_succ]
    omega
  refine parseInt_of B n _ hB ?_ (by rw [parseM_zeros]; exact parseM_dec _ (by omega) n (by omega))
  cases k with
  | zero => exact decDigits_head n
  | succ k => exact ⟨48, _, rfl, by decide⟩

/-- Decimal in twenty digits: noughts ahead. -/
theorem dec_pad (n K : Nat) (h : nDigits n ≤ K) : dec n K = List.replicate (K - nDigits n) 48 ++ decDigits n := by
  have hK : decLen n K = K := by unfold decLen; omega
  apply List.ext_getElem
  · rw [dec_length, hK, List.length_append, List.length_replicate, decDigits_length]; omega
  · intro i h1 h2
    rw [dec_length, hK] at h1
    simp only [dec, List.getElem_map, List.getElem_range, hK]
    rcases Nat.lt_or_ge i (K - nDigits n) with hi | hi
    · rw [List.getElem_append_left (by simpa using hi), List.getElem_replicate]
      unfold dg
      have h3 : n / 10 ^ (K - 1 - i) = 0 := Nat.div_eq_of_lt (Nat.lt_of_lt_of_le (lt_pow_nDigits n) (Nat.pow_le_pow_right (by decide) (by omega)))
      rw [h3]
      rfl
    · rw [List.getElem_append_right (by simpa using hi)]
      simp only [decDigits_eq, List.getElem_map, List.getElem_range, List.length_replicate]
      congr 1
      omega

theorem nDigits_le : ∀ (j n : Nat), n < 10 ^ (j + 1) → nDigits n ≤ j + 1
  | 0, n, h => by rw [nDigits_small (by simpa using h)]; exact Nat.le_refl _
  | j + 1, n, h => by
    by_cases hn : n < 10
    · rw [nDigits_small hn]; omega
    · rw [nDigits_big hn]
      have := nDigits_le j (n / 10) (by rw [Nat.pow_succ] at h; omega)
      omega
end Go.Proofs.YtjiblegnknhghaaDoor
