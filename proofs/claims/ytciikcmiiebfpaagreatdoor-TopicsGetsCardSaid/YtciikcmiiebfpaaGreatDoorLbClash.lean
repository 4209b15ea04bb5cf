/- LbDir, LbClash as one text (a claim holds at most 60 files). -/
import Derived.Test.YtciikcmiiebfpaaGreatDoorLbDec

/- LbDir -/
section
/- Dir and File in both texts; the law's example. -/
namespace Go.Proofs.YtciikcmiiebfpaaGreatDoor.Lb
open Go Go.RowKit
set_option linter.unusedVariables false

theorem itoa_any (n : Nat) (hn : n ≤ 9223372036854775807) (w : World) (h : LibOk w) : Calls Tryz.prog 43 #[.int .i64 (n : Int)] w fun r w' => r = .returned (.string (strOf (Lib.decDigits n))) ∧ Below w.heap.size w w' := by
  refine (Tryz.strconv_Itoa (n : Int) (by omega) (by omega) w h.tab).mono ?_
  rintro r w' ⟨rfl, k, os, rfl⟩
  refine ⟨?_, Lib.below_grow _ _ (Nat.le_refl _) _ _⟩
  have e : Lib.itoa (n : Int) = Lib.decDigits n := by unfold Lib.itoa; rw [if_neg (by omega), Int.toNat_natCast]
  rw [e]
  rfl
theorem fmt_any (n : Nat) (hn : n ≤ 9223372036854775807) (w : World) (h : LibOk w) : Calls Tryz.prog 154 #[.int .i64 (n : Int), .int .i64 10] w fun r w' => r = .returned (.string (strOf (Lib.decDigits n))) ∧ Below w.heap.size w w' := by
  refine (Tryz.strconv_FormatInt_10 (n : Int) (by omega) (by omega) w h.tab).mono ?_
  rintro r w' ⟨rfl, k, os, rfl⟩
  refine ⟨?_, Lib.below_grow _ _ (Nat.le_refl _) _ _⟩
  have e : Lib.itoa (n : Int) = Lib.decDigits n := by unfold Lib.itoa; rw [if_neg (by omega), Int.toNat_natCast]
  rw [e]
  rfl

theorem strOf_data (s : ByteArray) : strOf s.data.toList = s := by rcases s with ⟨d⟩; simp [strOf]
theorem strOf_append (a b : List UInt8) : strOf a ++ strOf b = strOf (a ++ b) := by
  apply ByteArray.ext
  show (strOf a ++ strOf b).data = _
  rw [ByteArray.data_append]
  simp [strOf]
theorem app_strOf (s : ByteArray) (b : List UInt8) : s ++ strOf b = strOf (s.data.toList ++ b) := by
  have := strOf_append s.data.toList b
  rwa [strOf_data] at this

theorem dd_size (n : Nat) (h : n ≤ 4611686018427387904) : (strOf (Lib.decDigits n)).size ≤ 19 := by rw [strOf_size, Lib.decDigits_length]; exact nDigits_le 18 n (by omega)
theorem d20_size (n : Nat) (h : n ≤ 4611686018427387904) : (strOf (dec n 20)).size ≤ 20 := by
  rw [strOf_size, dec_length]
  have := nDigits_le 18 n (by omega)
  unfold decLen
  omega
theorem repeat_one (c : Nat) : Lib.repeatL [48] c = List.replicate c 48 := by
  induction c with
  | zero => rfl
  | succ c ih => rw [Lib.repeatL, ih, List.replicate_succ]; rfl

/-- A directory's name. -/
def dirS (t : ByteArray) (n : Nat) : ByteArray := strOf (t.data.toList ++ 45 :: Lib.decDigits n)
theorem dirS_cat (t : ByteArray) (n : Nat) : t ++ ⟨#[45]⟩ ++ strOf (Lib.decDigits n) = dirS t n := by
  have e : (⟨#[45]⟩ : ByteArray) = strOf [45] := rfl
  have h2 : t ++ strOf [45] ++ strOf (Lib.decDigits n) = strOf (t.data.toList ++ [45] ++ Lib.decDigits n) := by rw [app_strOf t [45], strOf_append]
  rw [e, h2]
  simp [dirS]
def dirAns (t : ByteArray) (p : Int) : Value :=
  .tuple #[.string (if topicE t = 0 then (if p < 0 then ByteArray.empty else dirS t p.toNat) else ByteArray.empty), .int .i64 (if topicE t = 0 then (if p < 0 then 3 else 0) else (topicE t : Nat))]

section
variable (s : ByteArray) (w : World) (hm : s.size ≤ 140737488351232) (p : Int) (hp : -2147483648 ≤ p ∧ p ≤ 2147483647)
include hm hp
set_option maxRecDepth 100000 in
set_option maxHeartbeats 1000000 in
theorem dir_any (hl : LibOk w) : Calls Tryz.prog 19 #[.string s, .int .i32 p] w fun r w' => r = .returned (dirAns s p) ∧ Below w.heap.size w w' := by
  have HL := Lib.hid hl
  have HT := Lib.hid (topic_any s w hm)
  clear hl
  by_cases he : topicE s = 0
  · have HE := Lib.hid he
    by_cases hpn : p < 0
    · have HA := Lib.hid (show dirAns s p = .tuple #[.string ByteArray.empty, .int .i64 3] by unfold dirAns; rw [if_pos he, if_pos hpn, if_pos he, if_pos hpn])
      clear he
      go_enter Tryz.func19, Tryz.ntmps19
      go_wp2_with fail
      refine HT.out.mono ?_
      rintro r w1 ⟨rfl, h1⟩
      rw [HE.out]
      have B1 := Lib.hid h1
      clear h1
      go_wp2_with fail
      go_ret2
      exact ⟨by rw [HA.out]; rfl, B1.out⟩
    · obtain ⟨n, rfl⟩ := Int.eq_ofNat_of_zero_le (show 0 ≤ p by omega)
      have HA := Lib.hid (show dirAns s (n : Int) = .tuple #[.string (dirS s n), .int .i64 0] by unfold dirAns; rw [if_pos he, if_neg hpn, if_pos he, if_neg hpn, Int.toNat_natCast])
      clear he
      go_enter Tryz.func19, Tryz.ntmps19
      go_wp2_with fail
      refine HT.out.mono ?_
      rintro r w1 ⟨rfl, h1⟩
      rw [HE.out]
      have B1 := Lib.hid h1
      have L1 := Lib.hid (HL.out.below h1)
      clear h1
      go_wp2_with fail
      refine (itoa_any n (by omega) w1 L1.out).mono ?_
      rintro r w2 ⟨rfl, h2⟩
      have B2 : Hid (Below w.heap.size w w2) := B1.out.trans (h2.mono B1.out.size)
      have HC := Lib.hid (dirS_cat s n)
      have hdd := dd_size n (by omega)
      have hts := topic_short HE.out
      clear h2
      go_wp2_with fail
      go_ret2
      exact ⟨by rw [HA.out, ← HC.out]; rfl, B2.out⟩
  · have hne : (((topicE s : Nat) : Int) != 0) = true := by rw [bne_iff_ne]; omega
    have HA := Lib.hid (show dirAns s p = .tuple #[.string ByteArray.empty, .int .i64 (topicE s : Nat)] by unfold dirAns; rw [if_neg he, if_neg he])
    clear he
    go_enter Tryz.func19, Tryz.ntmps19
    go_wp2_with fail
    refine HT.out.mono ?_
    rintro r w1 ⟨rfl, h1⟩
    have B1 := Lib.hid h1
    clear h1
    go_wp2_with fail
    go_ret2
    exact ⟨by rw [HA.out]; rfl, B1.out⟩

set_option maxRecDepth 100000 in
set_option maxHeartbeats 1000000 in
theorem rdir_any : Calls Tryz.prog 22 #[.string s, .int .i32 p] w fun r w' => r = .returned (dirAns s p) ∧ Below w.heap.size w w' := by
  have HT := Lib.hid (rtopic_any s w hm)
  by_cases he : topicE s = 0
  · have HE := Lib.hid he
    by_cases hpn : p < 0
    · have HA := Lib.hid (show dirAns s p = .tuple #[.string ByteArray.empty, .int .i64 3] by unfold dirAns; rw [if_pos he, if_pos hpn, if_pos he, if_pos hpn])
      clear he
      go_enter Tryz.func22, Tryz.ntmps22
      go_wp2_with fail
      refine HT.out.mono ?_
      rintro r w1 ⟨rfl, rfl⟩
      rw [HE.out]
      go_wp2_with fail
      go_ret2
      exact ⟨by rw [HA.out]; rfl, Below.refl _ _⟩
    · obtain ⟨n, rfl⟩ := Int.eq_ofNat_of_zero_le (show 0 ≤ p by omega)
      have HA := Lib.hid (show dirAns s (n : Int) = .tuple #[.string (dirS s n), .int .i64 0] by unfold dirAns; rw [if_pos he, if_neg hpn, if_pos he, if_neg hpn, Int.toNat_natCast])
      clear he
      go_enter Tryz.func22, Tryz.ntmps22
      go_wp2_with fail
      refine HT.out.mono ?_
      rintro r w1 ⟨rfl, rfl⟩
      rw [HE.out]
      go_wp2_with fail
      refine (decimal_any w n 1 (by decide) (by decide) (by omega)).mono ?_
      rintro r w2 ⟨rfl, h2⟩
      rw [dec_one]
      have B2 := Lib.hid h2
      have HC := Lib.hid (dirS_cat s n)
      have hdd := dd_size n (by omega)
      have hts := topic_short HE.out
      clear h2
      go_wp2_with fail
      go_ret2
      exact ⟨by rw [HA.out, ← HC.out]; rfl, B2.out⟩
  · have hne : (((topicE s : Nat) : Int) != 0) = true := by rw [bne_iff_ne]; omega
    have HA := Lib.hid (show dirAns s p = .tuple #[.string ByteArray.empty, .int .i64 (topicE s : Nat)] by unfold dirAns; rw [if_neg he, if_neg he])
    clear he
    go_enter Tryz.func22, Tryz.ntmps22
    go_wp2_with fail
    refine HT.out.mono ?_
    rintro r w1 ⟨rfl, rfl⟩
    go_wp2_with fail
    go_ret2
    exact ⟨by rw [HA.out]; rfl, Below.refl _ _⟩
end

/-- A segment's file. -/
def logB : List UInt8 := [46, 108, 111, 103]
def fileS (n : Nat) : ByteArray := strOf (dec n 20 ++ logB)
def fileAns (b : Int) : Value := if b < 0 ∨ 4611686018427387904 < b then .tuple #[.string ByteArray.empty, .int .i64 3] else .tuple #[.string (fileS b.toNat), .int .i64 0]
theorem nd19 {n : Nat} (h : n ≤ 4611686018427387904) : Lib.nDigits n ≤ 19 := nDigits_le 18 n (by omega)

section
variable (w : World) (b : Int)
set_option maxRecDepth 100000 in
set_option maxHeartbeats 1000000 in
theorem rfile_any : Calls Tryz.prog 102 #[.int .i64 b] w fun r w' => r = .returned (fileAns b) ∧ Below w.heap.size w w' := by
  by_cases h0 : b < 0
  · have HA := Lib.hid (show fileAns b = .tuple #[.string ByteArray.empty, .int .i64 3] by unfold fileAns; rw [if_pos (.inl h0)])
    go_enter Tryz.func102, Tryz.ntmps102
    go_wp2_with fail
    go_ret2
    exact ⟨by rw [HA.out]; rfl, Below.refl _ _⟩
  by_cases h1 : 4611686018427387904 < b
  · have HA := Lib.hid (show fileAns b = .tuple #[.string ByteArray.empty, .int .i64 3] by unfold fileAns; rw [if_pos (.inr h1)])
    go_enter Tryz.func102, Tryz.ntmps102
    go_wp2_with fail
    go_ret2
    exact ⟨by rw [HA.out]; rfl, Below.refl _ _⟩
  · have HA := Lib.hid (show fileAns b = .tuple #[.string (fileS b.toNat), .int .i64 0] by unfold fileAns; rw [if_neg (by omega)])
    have HD := Lib.hid (show ∀ W : World, Calls Tryz.prog 53 #[.int .i64 b, .int .i64 20] W fun r w' => r = .returned (.string (strOf (dec b.toNat 20))) ∧ Below W.heap.size W w' by
      intro W
      have h := decimal_any W b.toNat 20 (by decide) (by decide) (by omega)
      rw [Int.toNat_of_nonneg (by omega)] at h
      exact h)
    go_enter Tryz.func102, Tryz.ntmps102
    go_wp2_with fail
    refine (HD.out w).mono ?_
    rintro r w2 ⟨rfl, h2⟩
    have B2 := Lib.hid h2
    have HC := Lib.hid (strOf_append (dec b.toNat 20) logB)
    have hdd := d20_size b.toNat (by omega)
    clear h2
    go_wp2_with fail
    go_ret2
    refine ⟨?_, B2.out⟩
    rw [HA.out]
    unfold fileS
    rw [← HC.out]
    rfl

set_option maxRecDepth 100000 in
set_option maxHeartbeats 1000000 in
theorem file_any (hl : LibOk w) : Calls Tryz.prog 99 #[.int .i64 b] w fun r w' => r = .returned (fileAns b) ∧ Below w.heap.size w w' := by
  have HL := Lib.hid hl
  clear hl
  by_cases h0 : b < 0
  · have HA := Lib.hid (show fileAns b = .tuple #[.string ByteArray.empty, .int .i64 3] by unfold fileAns; rw [if_pos (.inl h0)])
    go_enter Tryz.func99, Tryz.ntmps99
    go_wp2_with fail
    go_ret2
    exact ⟨by rw [HA.out]; rfl, Below.refl _ _⟩
  by_cases h1 : 4611686018427387904 < b
  · have HA := Lib.hid (show fileAns b = .tuple #[.string ByteArray.empty, .int .i64 3] by unfold fileAns; rw [if_pos (.inr h1)])
    go_enter Tryz.func99, Tryz.ntmps99
    go_wp2_with fail
    go_ret2
    exact ⟨by rw [HA.out]; rfl, Below.refl _ _⟩
  · have HA := Lib.hid (show fileAns b = .tuple #[.string (fileS b.toNat), .int .i64 0] by unfold fileAns; rw [if_neg (by omega)])
    have HF := Lib.hid (show Calls Tryz.prog 154 #[.int .i64 b, .int .i64 10] w fun r w' => r = .returned (.string (strOf (Lib.decDigits b.toNat))) ∧ Below w.heap.size w w' by
      have h := fmt_any b.toNat (by omega) w HL.out
      rw [Int.toNat_of_nonneg (by omega)] at h
      exact h)
    obtain ⟨k, hk⟩ : ∃ k, k = Lib.nDigits b.toNat := ⟨_, rfl⟩
    have hk1 : 1 ≤ k := by rw [hk]; exact Lib.nDigits_pos _
    have hk19 : k ≤ 19 := by rw [hk]; exact nd19 (by omega)
    have HSZ := Lib.hid (show (strOf (Lib.decDigits b.toNat)).size = k by rw [strOf_size, Lib.decDigits_length, hk])
    have HR := Lib.hid (show ∀ W : World, Calls Tryz.prog 155 #[.string ⟨#[48]⟩, .int .i64 (20 - (k : Int))] W fun r w' => r = .returned (.string (strOf (List.replicate (20 - k) 48))) ∧ Below W.heap.size W w' by
      intro W
      have h := Tryz.strings_Repeat ⟨#[48]⟩ (20 - k) W (by omega) (by show 1 * (20 - k) ≤ _; omega)
      rw [show ((20 - k : Nat) : Int) = 20 - (k : Int) by omega] at h
      refine h.mono ?_
      rintro r w' ⟨rfl, hb⟩
      refine ⟨?_, hb⟩
      have e := repeat_one (20 - k)
      show Ending.returned (.string ⟨(Lib.repeatL [48] (20 - k)).toArray⟩) = _
      rw [e]
      rfl)
    have HC := Lib.hid (show strOf (List.replicate (20 - k) 48) ++ strOf (Lib.decDigits b.toNat) ++ ⟨#[46, 108, 111, 103]⟩ = fileS b.toNat by
      have e : (⟨#[46, 108, 111, 103]⟩ : ByteArray) = strOf logB := rfl
      rw [e, strOf_append, strOf_append, hk, ← dec_pad _ 20 (by omega)]
      rfl)
    clear hk
    go_enter Tryz.func99, Tryz.ntmps99
    go_wp2_with fail
    refine HF.out.mono ?_
    rintro r w1 ⟨rfl, h1⟩
    have B1 := Lib.hid h1
    have hsz := HSZ.out
    generalize strOf (Lib.decDigits b.toNat) = ds at *
    clear h1
    go_wp2_with fail
    refine (HR.out w1).mono ?_
    rintro r w2 ⟨rfl, h2⟩
    have B2 : Hid (Below w.heap.size w w2) := B1.out.trans (h2.mono B1.out.size)
    have hds : ds.size ≤ 19 := by omega
    have hrs : (strOf (List.replicate (20 - k) 48)).size ≤ 20 := by rw [strOf_size, List.length_replicate]; omega
    clear h2 hsz
    go_wp2_with fail
    go_ret2
    exact ⟨by rw [HA.out, ← HC.out]; rfl, B2.out⟩
end
end Go.Proofs.YtciikcmiiebfpaaGreatDoor.Lb
end

/- LbClash -/
section
/- Clash in both texts. -/
namespace Go.Proofs.YtciikcmiiebfpaaGreatDoor.Lb
open Go Go.RowKit
set_option linter.unusedVariables false

/-- Two unlike names, folded to one. -/
def clashB (a b : ByteArray) : Bool := decide (topicE a = 0) && (decide (topicE b = 0) && (!(a.toList == b.toList) && (foldS a).toList == (foldS b).toList))

theorem foldAns_ok {s : ByteArray} (h : topicE s = 0) : foldAns s = .tuple #[.string (foldS s), .int .i64 0] := by unfold foldAns; rw [if_pos h, h]; rfl
theorem foldAns_no {s : ByteArray} (h : topicE s ≠ 0) : foldAns s = .tuple #[.string ByteArray.empty, .int .i64 (topicE s : Nat)] := by unfold foldAns; rw [if_neg h]

set_option maxRecDepth 100000 in
set_option maxHeartbeats 1000000 in
theorem clash_any (a b : ByteArray) (w : World) (ha : a.size ≤ 140737488351232) (hb : b.size ≤ 140737488351232) (hl : LibOk w) :
    Calls Tryz.prog 42 #[.string a, .string b] w fun r w' => r = .returned (.bool (clashB a b)) ∧ Below w.heap.size w w' := by
  have HL := Lib.hid hl
  have HFA := Lib.hid (fold_any a w ha hl)
  have HFB := Lib.hid (fun (W : World) (h : LibOk W) => fold_any b W hb h)
  clear hl
  obtain ⟨X, hX⟩ : ∃ X, foldAns b = .tuple #[.string X, .int .i64 (topicE b : Nat)] := ⟨_, rfl⟩
  have HX := Lib.hid hX
  clear hX
  by_cases hta : topicE a = 0
  · by_cases htb : topicE b = 0
    · have HA := Lib.hid (foldAns_ok hta)
      have HB := Lib.hid (foldAns_ok htb)
      have HC := Lib.hid (show clashB a b = (!(a.toList == b.toList) && (foldS a).toList == (foldS b).toList) by simp [clashB, hta, htb])
      clear hta htb
      go_enter Tryz.func42, Tryz.ntmps42
      go_wp2_with fail
      refine HFA.out.mono ?_
      rintro r w1 ⟨rfl, h1⟩
      rw [HA.out]
      have B1 := Lib.hid h1
      have L1 := Lib.hid (HL.out.below h1)
      clear h1
      go_wp2_with fail
      refine (HFB.out w1 L1.out).mono ?_
      rintro r w2 ⟨rfl, h2⟩
      rw [HB.out]
      have B2 : Hid (Below w.heap.size w w2) := B1.out.trans (h2.mono B1.out.size)
      clear h2
      go_wp2_with fail
      all_goals
        go_ret
        refine ⟨ret_bool ?_, B2.out⟩
        first | (rw [HC.out]; done) | (rw [HC.out]; simp [*]; done) | (rw [HC.out, Bool.and_comm]; done) | (rw [HC.out, Bool.and_comm]; simp [*]; done)
    · have HA := Lib.hid (foldAns_ok hta)
      have hE : (((topicE b : Nat) : Int) == 0) = false := by rw [beq_eq_false_iff_ne]; omega
      have HC := Lib.hid (show clashB a b = false by simp [clashB, htb])
      clear hta htb
      go_enter Tryz.func42, Tryz.ntmps42
      go_wp2_with fail
      refine HFA.out.mono ?_
      rintro r w1 ⟨rfl, h1⟩
      rw [HA.out]
      have B1 := Lib.hid h1
      have L1 := Lib.hid (HL.out.below h1)
      clear h1
      go_wp2_with fail
      refine (HFB.out w1 L1.out).mono ?_
      rintro r w2 ⟨rfl, h2⟩
      rw [HX.out]
      have B2 : Hid (Below w.heap.size w w2) := B1.out.trans (h2.mono B1.out.size)
      clear h2
      go_wp2_with fail
      go_ret
      exact ⟨ret_bool (by rw [HC.out]), B2.out⟩
  · have HA := Lib.hid (foldAns_no hta)
    have hE : (((topicE a : Nat) : Int) == 0) = false := by rw [beq_eq_false_iff_ne]; omega
    have HC := Lib.hid (show clashB a b = false by simp [clashB, hta])
    clear hta
    go_enter Tryz.func42, Tryz.ntmps42
    go_wp2_with fail
    refine HFA.out.mono ?_
    rintro r w1 ⟨rfl, h1⟩
    rw [HA.out]
    have B1 := Lib.hid h1
    have L1 := Lib.hid (HL.out.below h1)
    clear h1
    go_wp2_with fail
    refine (HFB.out w1 L1.out).mono ?_
    rintro r w2 ⟨rfl, h2⟩
    rw [HX.out]
    have B2 : Hid (Below w.heap.size w w2) := B1.out.trans (h2.mono B1.out.size)
    clear h2
    go_wp2_with fail
    go_ret
    exact ⟨ret_bool (by rw [HC.out]), B2.out⟩

set_option maxRecDepth 100000 in
set_option maxHeartbeats 1000000 in
theorem rclash_any (a b : ByteArray) (w : World) (ha : a.size ≤ 140737488351232) (hb : b.size ≤ 140737488351232) :
    Calls Tryz.prog 52 #[.string a, .string b] w fun r w' => r = .returned (.bool (clashB a b)) ∧ Below w.heap.size w w' := by
  have HFA := Lib.hid (rfold_any a w ha)
  have HFB := Lib.hid (fun (W : World) => rfold_any b W hb)
  obtain ⟨X, hX⟩ : ∃ X, foldAns b = .tuple #[.string X, .int .i64 (topicE b : Nat)] := ⟨_, rfl⟩
  have HX := Lib.hid hX
  clear hX
  by_cases hta : topicE a = 0
  · by_cases htb : topicE b = 0
    · have HA := Lib.hid (foldAns_ok hta)
      have HB := Lib.hid (foldAns_ok htb)
      have HC := Lib.hid (show clashB a b = (!(a.toList == b.toList) && (foldS a).toList == (foldS b).toList) by simp [clashB, hta, htb])
      clear hta htb
      go_enter Tryz.func52, Tryz.ntmps52
      go_wp2_with fail
      refine HFA.out.mono ?_
      rintro r w1 ⟨rfl, h1⟩
      rw [HA.out]
      have B1 := Lib.hid h1
      clear h1
      go_wp2_with fail
      refine (HFB.out w1).mono ?_
      rintro r w2 ⟨rfl, h2⟩
      rw [HB.out]
      have B2 : Hid (Below w.heap.size w w2) := B1.out.trans (h2.mono B1.out.size)
      clear h2
      go_wp2_with fail
      all_goals
        go_ret
        refine ⟨ret_bool ?_, B2.out⟩
        first | (rw [HC.out]; done) | (rw [HC.out]; simp [*]; done) | (rw [HC.out, Bool.and_comm]; done) | (rw [HC.out, Bool.and_comm]; simp [*]; done)
    · have HA := Lib.hid (foldAns_ok hta)
      have hE : (((topicE b : Nat) : Int) == 0) = false := by rw [beq_eq_false_iff_ne]; omega
      have HC := Lib.hid (show clashB a b = false by simp [clashB, htb])
      clear hta htb
      go_enter Tryz.func52, Tryz.ntmps52
      go_wp2_with fail
      refine HFA.out.mono ?_
      rintro r w1 ⟨rfl, h1⟩
      rw [HA.out]
      have B1 := Lib.hid h1
      clear h1
      go_wp2_with fail
      refine (HFB.out w1).mono ?_
      rintro r w2 ⟨rfl, h2⟩
      rw [HX.out]
      have B2 : Hid (Below w.heap.size w w2) := B1.out.trans (h2.mono B1.out.size)
      clear h2
      go_wp2_with fail
      go_ret
      exact ⟨ret_bool (by rw [HC.out]), B2.out⟩
  · have HA := Lib.hid (foldAns_no hta)
    have hE : (((topicE a : Nat) : Int) == 0) = false := by rw [beq_eq_false_iff_ne]; omega
    have HC := Lib.hid (show clashB a b = false by simp [clashB, hta])
    clear hta
    go_enter Tryz.func52, Tryz.ntmps52
    go_wp2_with fail
    refine HFA.out.mono ?_
    rintro r w1 ⟨rfl, h1⟩
    rw [HA.out]
    have B1 := Lib.hid h1
    clear h1
    go_wp2_with fail
    refine (HFB.out w1).mono ?_
    rintro r w2 ⟨rfl, h2⟩
    rw [HX.out]
    have B2 : Hid (Below w.heap.size w w2) := B1.out.trans (h2.mono B1.out.size)
    clear h2
    go_wp2_with fail
    go_ret
    exact ⟨ret_bool (by rw [HC.out]), B2.out⟩
end Go.Proofs.YtciikcmiiebfpaaGreatDoor.Lb
end
