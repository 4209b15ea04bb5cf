/- LbDigits, LbDec as one text (a claim holds at most 60 files). -/
import Derived.Lib.ItoaNum
import Derived.Lib.ParseIntB
import Derived.Test.YtciikcmiiebfpaaGreatDoorLbFold

/- LbDigits -/
section
/- Plain: decimal digits. The document's Decimal and number, held against strconv's. -/
namespace Go.Proofs.YtciikcmiiebfpaaGreatDoor.Lb
open Go Go.Lib

/-- How many digits Decimal lays. -/
def decLen (n least : Nat) : Nat := max (nDigits n) least
/-- Decimal: n in at least so many digits. -/
def dec (n least : Nat) : List UInt8 := (List.range (decLen n least)).map fun t => dg n (decLen n least - 1 - t)

theorem dec_length (n least : Nat) : (dec n least).length = decLen n least := by simp [dec]
theorem dec_one (n : Nat) : dec n 1 = decDigits n := by
  have h := nDigits_pos n
  have e : decLen n 1 = nDigits n := by unfold decLen; omega
  rw [decDigits_eq]
  unfold dec
  rw [e]

/-- Decimal's loop goes on. -/
theorem dec_more (n least k : Nat) (h1 : 1 ≤ least) : k < decLen n least ↔ (0 < n / 10 ^ k ∨ k < least) := by
  unfold decLen
  have hp : 0 < 10 ^ k := Nat.pow_pos (by decide)
  constructor
  · intro h
    by_cases hk : k < least
    · exact .inr hk
    · left
      have hk2 : k < nDigits n := by omega
      refine Nat.div_pos ?_ hp
      rcases Nat.lt_or_ge n (10 ^ k) with h2 | h2
      · exfalso
        rcases k with _ | k
        · omega
        · have : nDigits n ≤ k + 1 := by
            clear hk hp h
            induction k generalizing n with
            | zero => rw [nDigits_small (by simpa using h2)]; exact Nat.le_refl _
            | succ k ih =>
              by_cases hn : n < 10
              · rw [nDigits_small hn]; omega
              · rw [nDigits_big hn]
                have h3 : n / 10 < 10 ^ (k + 1) := by rw [Nat.pow_succ] at h2; omega
                have := ih (n / 10) (by rw [nDigits_big hn] at hk2; omega) h3
                omega
          omega
      · exact h2
  · rintro (h | h)
    · have h2 : 10 ^ k ≤ n := by
        rcases Nat.lt_or_ge n (10 ^ k) with h3 | h3
        · rw [Nat.div_eq_of_lt h3] at h; omega
        · exact h3
      have h3 := lt_pow_nDigits n
      have h4 : 10 ^ k < 10 ^ nDigits n := by omega
      have := (Nat.pow_lt_pow_iff_right (by decide : 1 < 10)).1 h4
      omega
    · omega

theorem rev_range_map (f : Nat → UInt8) (K : Nat) : ((List.range K).map f).reverse = (List.range K).map fun t => f (K - 1 - t) := by
  apply List.ext_getElem
  · simp
  · intro i h1 h2
    simp
theorem dec_rev (n least : Nat) : dec n least = ((List.range (decLen n least)).map (dg n)).reverse := by
  rw [rev_range_map]
  rfl
theorem range_snoc (f : Nat → UInt8) (k : Nat) : (List.range (k + 1)).map f = (List.range k).map f ++ [f k] := by
  rw [List.range_succ, List.map_append]; rfl

def isDig (c : UInt8) : Prop := 48 ≤ c.toNat ∧ c.toNat ≤ 57
instance (c : UInt8) : Decidable (isDig c) := by unfold isDig; infer_instance

/-- The document's number: what the digits write, up to most. -/
def refNum (most acc : Nat) : List UInt8 → Option Nat
  | [] => some acc
  | c :: r => if isDig c then (if (most - (c.toNat - 48)) / 10 < acc then none else refNum most (acc * 10 + (c.toNat - 48)) r) else none

theorem refNum_append (most : Nat) : ∀ (l r : List UInt8) (acc : Nat), refNum most acc (l ++ r) = (refNum most acc l).bind (fun a => refNum most a r)
  | [], _, _ => rfl
  | c :: l, r, acc => by
    simp only [List.cons_append, refNum]
    by_cases h : isDig c
    · rw [if_pos h, if_pos h]
      by_cases h2 : (most - (c.toNat - 48)) / 10 < acc
      · rw [if_pos h2, if_pos h2]; rfl
      · rw [if_neg h2, if_neg h2]
        exact refNum_append most l r _
    · rw [if_neg h, if_neg h]; rfl
theorem digit_toNat (d : Nat) (h : d < 10) : (UInt8.ofNat (48 + d)).toNat = 48 + d := by
  rw [UInt8.toNat_ofNat']
  omega
theorem refNum_one (most acc d : Nat) (hd : d < 10) (h : acc * 10 + d ≤ most) : refNum most acc [UInt8.ofNat (48 + d)] = some (acc * 10 + d) := by
  simp only [refNum, isDig, digit_toNat d hd]
  rw [if_pos (by omega), if_neg (by omega)]
  congr 1
  omega
theorem refNum_dec (most : Nat) (n : Nat) : n ≤ most → refNum most 0 (decDigits n) = some n := by
  induction n using Nat.strongRecOn with
  | _ n ih =>
    intro h
    by_cases hn : n < 10
    · rw [decDigits, dif_pos hn]
      have := refNum_one most 0 n hn (by omega)
      simpa using this
    · rw [decDigits, dif_neg hn, refNum_append, ih (n / 10) (by omega) (by omega)]
      simp only [Option.bind_some]
      rw [refNum_one most (n / 10) (n % 10) (by omega) (by omega)]
      congr 1
      omega
/-- Decimal in twenty digits: noughts ahead. -/
theorem dec_pad (n K : Nat) (h : nDigits n ≤ K) : dec n K = List.replicate (K - nDigits n) 48 ++ decDigits n := by
  have hK : decLen n K = K := by unfold decLen; omega
  apply List.ext_getElem
  · rw [dec_length, hK, List.length_append, List.length_replicate, decDigits_length]; omega
  · intro i h1 h2
    rw [dec_length, hK] at h1
    simp only [dec, List.getElem_map, List.getElem_range, hK]
    rcases Nat.lt_or_ge i (K - nDigits n) with hi | hi
    · rw [List.getElem_append_left (by simpa using hi), List.getElem_replicate]
      unfold dg
      have h3 : n / 10 ^ (K - 1 - i) = 0 := Nat.div_eq_of_lt (Nat.lt_of_lt_of_le (lt_pow_nDigits n) (Nat.pow_le_pow_right (by decide) (by omega)))
      rw [h3]
      rfl
    · rw [List.getElem_append_right (by simpa using hi)]
      simp only [decDigits_eq, List.getElem_map, List.getElem_range, List.length_replicate]
      congr 1
      omega

theorem nDigits_le : ∀ (j n : Nat), n < 10 ^ (j + 1) → nDigits n ≤ j + 1
  | 0, n, h => by rw [nDigits_small (by simpa using h)]; exact Nat.le_refl _
  | j + 1, n, h => by
    by_cases hn : n < 10
    · rw [nDigits_small hn]; omega
    · rw [nDigits_big hn]
      have := nDigits_le j (n / 10) (by rw [Nat.pow_succ] at h; omega)
      omega
end Go.Proofs.YtciikcmiiebfpaaGreatDoor.Lb
end

/- LbDec -/
section
/- The walk of the document's Decimal. -/
namespace Go.Proofs.YtciikcmiiebfpaaGreatDoor.Lb
open Go Go.RowKit Go.Lib
set_option linter.unusedVariables false

def strOf (l : List UInt8) : ByteArray := ⟨l.toArray⟩
theorem strOf_size (l : List UInt8) : (strOf l).size = l.length := by show l.toArray.size = _; simp
theorem strOf_push (l : List UInt8) (c : UInt8) : (strOf l).push c = strOf (l ++ [c]) := by simp [strOf, ByteArray.push]
theorem strOf_get (l : List UInt8) (i : Nat) (c : UInt8) (h : l[i]? = some c) : (strOf l).get! i = c := by
  obtain ⟨hi, rfl⟩ := List.getElem?_eq_some_iff.1 h
  show (strOf l).data[i]! = _
  simp [strOf, hi]

/-- The low digits first. -/
def lows (n k : Nat) : List UInt8 := (List.range k).map (dg n)
theorem lows_length (n k : Nat) : (lows n k).length = k := by simp [lows]
theorem lows_snoc (n k : Nat) : lows n (k + 1) = lows n k ++ [dg n k] := range_snoc _ _
theorem lows_get (n K i : Nat) (h : i < K) : (lows n K)[i]? = some (dg n i) := by simp [lows, h]
theorem dg_toNat (n k : Nat) : (dg n k).toNat = 48 + n / 10 ^ k % 10 := digit_toNat _ (Nat.mod_lt _ (by decide))
theorem drop_rev {α : Type} {l : List α} {k : Nat} {x : α} (h : l[k]? = some x) : (l.drop k).reverse = (l.drop (k + 1)).reverse ++ [x] := by
  obtain ⟨hk, rfl⟩ := List.getElem?_eq_some_iff.1 h
  rw [List.drop_eq_getElem_cons hk, List.reverse_cons]

set_option maxRecDepth 100000 in
set_option maxHeartbeats 2000000 in
theorem decimal_any (w : World) (n least : Nat) (h1 : 1 ≤ least) (h20 : least ≤ 20) (hn : n ≤ 9223372036854775807) :
    Calls Tryz.prog 53 #[.int .i64 (n : Int), .int .i64 (least : Int)] w fun r w' => r = .returned (.string (strOf (dec n least))) ∧ Below w.heap.size w w' := by
  obtain ⟨K, hK⟩ : ∃ K, K = decLen n least := ⟨_, rfl⟩
  have hK20 : K ≤ 20 := by
    have := nDigits_le 18 n (by omega)
    unfold decLen at hK
    omega
  have MORE := Lib.hid (fun k => dec_more n least k h1)
  have DEC := Lib.hid (show dec n least = (lows n K).reverse by rw [hK]; exact dec_rev n least)
  have HK := Lib.hid hK
  obtain ⟨x0, hx0⟩ : ∃ x0 : Int, x0 = (n : Int) := ⟨_, rfl⟩
  have hb0 : 0 ≤ x0 := by omega
  have hb1 : x0 ≤ 9223372036854775807 := by omega
  rw [← hx0]
  have HX0 := Lib.hid hx0
  clear hx0 hn hK
  go_enter Tryz.func53, Tryz.ntmps53
  go_wp2_with fail
  go_loopg [0, 5] K (fun g xv v wr => ∃ (k : Nat) (x : Int) (A : Option Addr) (c : Nat), k + g = K ∧ xv = .int .i64 x ∧ v = .slice A k c ∧ Hid (x = ((n / 10 ^ k : Nat) : Int)) ∧ 0 ≤ x ∧ x ≤ 9223372036854775807 ∧ OB wr w.heap.size (.slice A k c) (strOf (lows n k)) ∧ Below w.heap.size w wr)
  case atStart => exact ⟨0, x0, _, 0, by omega, rfl, rfl, by show _ = _; rw [HX0.out]; simp, hb0, hb1, OB.nil w, (Below.refl _ _).alloc (Nat.le_refl _) _⟩
  case round =>
    obtain ⟨k, x, A, c, hkg, rfl, rfl, HX, hx1, hx2, hown, hbr⟩ := hrel
    have OWN := Lib.hid hown
    have BR := Lib.hid hbr
    have hwz := hbr.size
    clear hown hbr
    by_cases hlt : k < K
    · have hm := (MORE.out k).1 (by rw [← HK.out]; exact hlt)
      have hor : 0 < x ∨ k < least := by
        rcases hm with h | h
        · left; have := HX.out; omega
        · exact .inr h
      have hw8 : IntKind.u8.wrap (48 + x % 10) = 48 + x % 10 := by
        unfold IntKind.wrap
        simp [IntKind.signed, IntKind.bits]
        omega
      have HSZ : Hid ((strOf (lows n k)).size = k) := by show _ = _; rw [strOf_size, lows_length]
      have HV : Hid (Value.int .u8 (48 + x % 10) = bv (dg n k)) := by
        show _ = _
        unfold bv
        rw [dg_toNat]
        congr 1
        have := HX.out
        omega
      have HS := Lib.hid (lows_snoc n k)
      have HX2 : Hid (x / 10 = ((n / 10 ^ (k + 1) : Nat) : Int)) := by
        show _ = _
        rw [HX.out, Nat.pow_succ, ← Nat.div_div_eq_div_mul]
        omega
      clear hm
      have ROUND := Lib.hid (show ∀ (v1 : Value) (w1 : World), OB w1 w.heap.size v1 ((strOf (lows n k)).push (dg n k)) → Below w.heap.size wr w1 → ∃ (A : Option Addr) (c : Nat), v1 = .slice A (k + 1) c ∧ OB w1 w.heap.size (.slice A (k + 1) c) (strOf (lows n (k + 1))) ∧ Below w.heap.size w w1 by
        intro v1 w1 h hb
        rw [strOf_push, ← HS.out] at h
        obtain ⟨A1, c1, hv, _⟩ := h.form
        rw [strOf_size, lows_length] at hv
        subst hv
        exact ⟨A1, c1, rfl, h, BR.out.trans hb⟩)
      by_cases hxp : 0 < x
      all_goals
        go_wp2_with (at_builtin; refine wpList_push rfl _ _ rfl _ _ _ _ _ (dg n k) rfl rfl HV.out OWN.out hwz (by rw [HSZ.out]; omega) ?_; intro v1 w1 hown1 hb1; have OWN1 := Lib.hid hown1; have HB1 := Lib.hid hb1; clear hown1 hb1)
        obtain ⟨A1, c1, rfl, ho, hb⟩ := ROUND.out _ _ OWN1.out HB1.out
        go_roundg (K - (k + 1))
        case measure => omega
        case rel => exact ⟨k + 1, x / 10, A1, c1, by omega, rfl, rfl, HX2, by omega, by omega, ho, hb⟩
    · have hkK : k = K := by omega
      subst hkK
      have hno : ¬ 0 < x ∧ ¬ k < least := by
        have h := MORE.out k
        have h2 := HX.out
        have h3 : ¬ (0 < n / 10 ^ k ∨ k < least) := fun hh => by have := h.2 hh; have := HK.out; omega
        omega
      obtain ⟨hx0, hkl⟩ := hno
      have hz : IntKind.i64.wrap ((k : Int) - 1) = (k : Int) - 1 := IntWalk.i64_in _ (by omega)
      have RB1 := Lib.hid (OWN.out.rb).2
      have O2 := Lib.hid (OB.nil wr)
      have hb2 : Below wr.heap.size wr (wr.alloc (.cells #[] 5)) := (Below.refl _ _).alloc (Nat.le_refl _) _
      have HB2 := Lib.hid hb2
      clear hb2
      go_wp2_with fail
      generalize wr.alloc (.cells #[] 5) = W2 at *
      clear hz hx0 hkl
      go_loopw [6, 7] (fun v i w2 => ∃ (m : Nat) (j : Int), i = .int .i64 j ∧ Hid (j = (m : Int) - 1) ∧ m ≤ k ∧ OB w2 wr.heap.size v (strOf ((lows n k).drop m).reverse) ∧ Below wr.heap.size wr w2) (fun _ i _ => (RowKit.intOf i + 1).toNat)
      case atStart => exact ⟨k, _, rfl, Lib.hid rfl, Nat.le_refl _, by rw [List.drop_of_length_le (by rw [lows_length]; exact Nat.le_refl _)]; exact O2.out, HB2.out⟩
      case round =>
        obtain ⟨m, j, rfl, HJ, hmk, hown2, hbr2⟩ := hrel
        have OWN2 := Lib.hid hown2
        have BR2 := Lib.hid hbr2
        have hwz2 := hbr2.size
        cases m with
        | zero =>
          obtain rfl : j = -1 := by have := HJ.out; omega
          obtain ⟨A5, c5, rfl, hrb⟩ := hown2.form
          have hcv := run_string (P := Tryz.prog) hrb c5 51 5 9 Tryz.underlying51 Tryz.underlying5 Tryz.underlying9
          rw [List.drop_zero] at hcv
          clear hown2 hbr2 hrb
          go_wp2_with fail
          go_ret
          refine ⟨?_, BR.out.trans (BR2.out.mono hwz)⟩
          rw [DEC.out]
          rfl
        | succ m =>
          obtain rfl : j = (m : Int) := by have := HJ.out; omega
          have hms : m < (strOf (lows n k)).size := by rw [strOf_size, lows_length]; omega
          obtain ⟨a, rfl, hc⟩ := (RB.below RB1.out hbr2).cell hms
          have hget := lows_get n k m (by omega)
          rw [strOf_get _ _ _ hget] at hc
          have HD := Lib.hid (drop_rev hget)
          have hsz : (strOf ((lows n k).drop (m + 1)).reverse).size = k - (m + 1) := by rw [strOf_size, List.length_reverse, List.length_drop, lows_length]
          have HSZ := Lib.hid hsz
          have hq1 : (0 : Int) ≤ (m : Int) := by omega
          have hq2 : (m : Int) < (k : Int) := by omega
          clear hown2 hbr2 hget HJ hsz hms
          go_wp2_with (at_builtin; refine wpList_push rfl _ _ rfl _ _ _ _ _ (dg n m) rfl rfl rfl OWN2.out hwz2 (by rw [HSZ.out]; omega) ?_; intro v1 w1 hown1 hb1; have OWN1 := Lib.hid hown1; have HB1 := Lib.hid hb1; clear hown1 hb1)
          go_roundw
          case rel =>
            refine ⟨m, _, rfl, Lib.hid rfl, by omega, ?_, BR2.out.trans HB1.out⟩
            rw [HD.out, ← strOf_push]
            exact OWN1.out
          case measure => simp [RowKit.intOf]
end Go.Proofs.YtciikcmiiebfpaaGreatDoor.Lb
end
