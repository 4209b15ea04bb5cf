/- The law LabelOrder. -/
import Derived.Test.YtjiblegnknhghaaDoorAliveD
import Derived.Test.YtjiblegnknhghaaDoorUnFile
namespace Go.Proofs.YtjiblegnknhghaaDoor
open Go Go.RowKit
set_option linter.unusedVariables false

/-- The k low digits of n, the highest first. -/
def lowD (n k : Nat) : List UInt8 := (List.range k).map fun t => Lib.dg n (k - 1 - t)
theorem lowD_succ (n k : Nat) : lowD n (k + 1) = Lib.dg n k :: lowD n k := by
  unfold lowD
  rw [List.range_succ_eq_map, List.map_cons, List.map_map]
  congr 1
  apply List.map_congr_left
  intro t ht
  show Lib.dg n (k + 1 - 1 - (t + 1)) = _
  congr 1
  omega
theorem low_mod (n k : Nat) : n % 10 ^ (k + 1) = n / 10 ^ k % 10 * 10 ^ k + n % 10 ^ k := by
  rw [Nat.pow_succ, Nat.mod_mul]
  rw [Nat.mul_comm, Nat.add_comm]
theorem less_low (r : List UInt8) (m n : Nat) : ∀ k, Op.bytesLess (lowD m k ++ r) (lowD n k ++ r) = decide (m % 10 ^ k < n % 10 ^ k)
  | 0 => by
    rw [Nat.pow_zero, Nat.mod_one, Nat.mod_one]
    show Op.bytesLess r r = _
    have h : ∀ l : List UInt8, Op.bytesLess l l = false := by
      intro l
      induction l with
      | nil => rfl
      | cons a l ih => simp [Op.bytesLess, ih]
    rw [h]
    rfl
  | k + 1 => by
    have ih := less_low r m n k
    rw [lowD_succ, lowD_succ, low_mod m k, low_mod n k, List.cons_append, List.cons_append]
    simp only [Op.bytesLess]
    have h1 := dg_toNat m k
    have h2 := dg_toNat n k
    have hp : 0 < 10 ^ k := Nat.pow_pos (by decide)
    have l1 := Nat.mod_lt m hp
    have l2 := Nat.mod_lt n hp
    generalize m / 10 ^ k % 10 = x at *
    generalize n / 10 ^ k % 10 = y at *
    generalize m % 10 ^ k = u at *
    generalize n % 10 ^ k = v at *
    generalize 10 ^ k = P at *
    rw [ih]
    rcases Nat.lt_trichotomy x y with h | h | h
    · have e1 : decide (Lib.dg m k < Lib.dg n k) = true := by rw [decide_eq_true_eq, UInt8.lt_iff_toNat_lt]; omega
      have e2 : (x + 1) * P ≤ y * P := Nat.mul_le_mul_right _ h
      rw [Nat.add_mul] at e2
      rw [e1, Bool.true_or, eq_comm, decide_eq_true_eq]
      omega
    · subst h
      have e0 : Lib.dg m k = Lib.dg n k := UInt8.toNat_inj.1 (by omega)
      rw [e0]
      have e1 : decide (Lib.dg n k < Lib.dg n k) = false := by rw [decide_eq_false_iff_not, UInt8.lt_iff_toNat_lt]; omega
      rw [e1, Bool.false_or, beq_self_eq_true, Bool.true_and, decide_eq_decide]
      omega
    · have e1 : decide (Lib.dg m k < Lib.dg n k) = false := by rw [decide_eq_false_iff_not, UInt8.lt_iff_toNat_lt]; omega
      have e0 : (Lib.dg m k == Lib.dg n k) = false := by
        rw [beq_eq_false_iff_ne]
        intro e
        rw [e] at h1
        omega
      have e2 : (y + 1) * P ≤ x * P := Nat.mul_le_mul_right _ h
      rw [Nat.add_mul] at e2
      rw [e1, e0, Bool.false_or, Bool.false_and, eq_comm, decide_eq_false_iff_not]
      omega

theorem dec_low {n : Nat} (h : n ≤ 4611686018427387904) : dec n 20 = lowD n 20 := by
  have e : decLen n 20 = 20 := by
    have := nd19 h
    unfold decLen
    omega
  unfold dec lowD
  rw [e]
theorem fileS_less {m n : Nat} (hm : m ≤ 4611686018427387904) (hn : n ≤ 4611686018427387904) : Op.bytesLess (fileS m).toList (fileS n).toList = decide (m < n) := by
  rw [Lib.toList_data, Lib.toList_data, fileS_data, fileS_data, dec_low hm, dec_low hn, less_low, Nat.mod_eq_of_lt (by omega), Nat.mod_eq_of_lt (by omega)]
theorem fileS_same {m n : Nat} (hm : m ≤ 4611686018427387904) (hn : n ≤ 4611686018427387904) : ((m : Int) == (n : Int)) = ((fileS m).toList == (fileS n).toList) := by
  rw [Bool.eq_iff_iff, beq_iff_eq, beq_iff_eq, Lib.toList_data, Lib.toList_data]
  constructor
  · intro h
    have : m = n := by omega
    rw [this]
  · intro h
    have e : fileS m = fileS n := by rw [← strOf_data (fileS m), h, strOf_data]
    have h1 := uf_file hm
    rw [e, uf_file hn] at h1
    injection h1 with h1
    rw [h1]

set_option maxRecDepth 100000 in
set_option maxHeartbeats 1000000 in
theorem order_any (a b : Int) (w : World) (ha : -9223372036854775808 ≤ a ∧ a ≤ 9223372036854775807) (hb : -9223372036854775808 ≤ b ∧ b ≤ 9223372036854775807) (hl : LibOk w) (he : ErrOk w) :
    Calls Tryd.prog 8 #[.int .i64 a, .int .i64 b] w fun r w' => r = .returned (.bool true) ∧ Below w.heap.size w w' := by
  have HL := Lib.hid hl
  have HE := Lib.hid he
  have HAL := Lib.hid (alive_any w hl)
  clear hl he
  by_cases hin : a < 0 ∨ b < 0 ∨ 4611686018427387904 < a ∨ 4611686018427387904 < b
  · have hq : a < 0 ∨ (0 ≤ a ∧ b < 0) ∨ (0 ≤ a ∧ 0 ≤ b ∧ 4611686018427387904 < a) ∨ (0 ≤ a ∧ 0 ≤ b ∧ a ≤ 4611686018427387904 ∧ 4611686018427387904 < b) := by omega
    clear hin
    rcases hq with h | ⟨h1, h⟩ | ⟨h1, h2, h⟩ | ⟨h1, h2, h3, h⟩
    all_goals
      go_enter Tryd.func8, Tryd.ntmps8
      go_wp2_with fail
      refine HAL.out.mono ?_
      rintro r w1 ⟨rfl, h1⟩
      have B1 := Lib.hid h1
      clear h1
      go_wp2_with fail
      go_ret
      exact ⟨rfl, B1.out⟩
  · obtain ⟨m, rfl⟩ := Int.eq_ofNat_of_zero_le (show 0 ≤ a by omega)
    obtain ⟨n, rfl⟩ := Int.eq_ofNat_of_zero_le (show 0 ≤ b by omega)
    have hm : m ≤ 4611686018427387904 := by omega
    have hn : n ≤ 4611686018427387904 := by omega
    have HFA := Lib.hid (fun (W : World) (h : LibOk W) => file_any W (m : Int) h)
    have HFB := Lib.hid (fun (W : World) (h : LibOk W) => file_any W (n : Int) h)
    have HA := Lib.hid (fileAns_in hm)
    have HB := Lib.hid (fileAns_in hn)
    have hsz := fileS_size hm
    have HU := Lib.hid (fun (W : World) (h : LibOk W) (h2 : ErrOk W) => unfile_any (fileS m) W (by omega) h h2)
    have HUA := Lib.hid (ufAns_some (uf_file hm))
    have HLESS := Lib.hid (fileS_less hm hn)
    have HSAME := Lib.hid (fileS_same hm hn)
    clear hin
    go_enter Tryd.func8, Tryd.ntmps8
    go_wp2_with fail
    refine HAL.out.mono ?_
    rintro r w1 ⟨rfl, h1⟩
    have B1 := Lib.hid h1
    have L1 := Lib.hid (HL.out.below B1.out)
    clear h1
    go_wp2_with fail
    refine (HFA.out w1 L1.out).mono ?_
    rintro r w2 ⟨rfl, h2⟩
    rw [HA.out]
    have B2 : Hid (Below w.heap.size w w2) := B1.out.trans (h2.mono B1.out.size)
    have L2 := Lib.hid (HL.out.below B2.out)
    clear h2
    go_wp2_with fail
    refine (HFB.out w2 L2.out).mono ?_
    rintro r w3 ⟨rfl, h3⟩
    rw [HB.out]
    have B3 : Hid (Below w.heap.size w w3) := B2.out.trans (h3.mono B2.out.size)
    have L3 := Lib.hid (HL.out.below B3.out)
    have E3 := Lib.hid (HE.out.below B3.out)
    clear h3
    go_wp2_with fail
    refine (HU.out w3 L3.out E3.out).mono ?_
    rintro r w4 ⟨rfl, h4⟩
    rw [HUA.out]
    have B4 : Hid (Below w.heap.size w w4) := B3.out.trans (h4.mono B3.out.size)
    clear h4
    go_wp2_with fail
    · go_ret
      exact ⟨ret_bool (by rw [HSAME.out]; simp), B4.out⟩
    · rename_i h
      exact absurd HLESS.out.symm h
end Go.Proofs.YtjiblegnknhghaaDoor
