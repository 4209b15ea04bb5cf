/- Clash in both texts. -/
import Derived.Test.YtjiblegnknhghaaDoorAliveD
namespace Go.Proofs.YtjiblegnknhghaaDoor
open Go Go.RowKit
set_option linter.unusedVariables false

/-- Two unlike names, folded to one. -/
def clashB (a b : ByteArray) : Bool := decide (topicE a = 0) && (decide (topicE b = 0) && (!(a.toList == b.toList) && (foldS a).toList == (foldS b).toList))

theorem foldAns_ok {s : ByteArray} (h : topicE s = 0) : foldAns s = .tuple #[.string (foldS s), .int .i64 0] := by unfold foldAns; rw [if_pos h, h]; rfl
theorem foldAns_no {s : ByteArray} (h : topicE s ≠ 0) : foldAns s = .tuple #[.string ByteArray.empty, .int .i64 (topicE s : Nat)] := by unfold foldAns; rw [if_neg h]

set_option maxRecDepth 100000 in
set_option maxHeartbeats 1000000 in
theorem clash_any (a b : ByteArray) (w : World) (ha : a.size ≤ 140737488351232) (hb : b.size ≤ 140737488351232) (hl : LibOk w) :
    Calls Tryd.prog 10 #[.string a, .string b] w fun r w' => r = .returned (.bool (clashB a b)) ∧ Below w.heap.size w w' := by
  have HL := Lib.hid hl
  have HFA := Lib.hid (fold_any a w ha hl)
  have HFB := Lib.hid (fun (W : World) (h : LibOk W) => fold_any b W hb h)
  clear hl
  obtain ⟨X, hX⟩ : ∃ X, foldAns b = .tuple #[.string X, .int .i64 (topicE b : Nat)] := ⟨_, rfl⟩
  have HX := Lib.hid hX
  clear hX
  by_cases hta : topicE a = 0
  · by_cases htb : topicE b = 0
    · have HA := Lib.hid (foldAns_ok hta)
      have HB := Lib.hid (foldAns_ok htb)
      have HC := Lib.hid (show clashB a b = (!(a.toList == b.toList) && (foldS a).toList == (foldS b).toList) by simp [clashB, hta, htb])
      clear hta htb
      go_enter Tryd.func10, Tryd.ntmps10
      go_wp2_with fail
      refine HFA.out.mono ?_
      rintro r w1 ⟨rfl, h1⟩
      rw [HA.out]
      have B1 := Lib.hid h1
      have L1 := Lib.hid (HL.out.below h1)
      clear h1
      go_wp2_with fail
      refine (HFB.out w1 L1.out).mono ?_
      rintro r w2 ⟨rfl, h2⟩
      rw [HB.out]
      have B2 : Hid (Below w.heap.size w w2) := B1.out.trans (h2.mono B1.out.size)
      clear h2
      go_wp2_with fail
      all_goals
        go_ret
        refine ⟨ret_bool ?_, B2.out⟩
        first | (rw [HC.out]; done) | (rw [HC.out]; simp [*]; done) | (rw [HC.out, Bool.and_comm]; done) | (rw [HC.out, Bool.and_comm]; simp [*]; done)
    · have HA := Lib.hid (foldAns_ok hta)
      have hE : (((topicE b : Nat) : Int) == 0) = false := by rw [beq_eq_false_iff_ne]; omega
      have HC := Lib.hid (show clashB a b = false by simp [clashB, htb])
      clear hta htb
      go_enter Tryd.func10, Tryd.ntmps10
      go_wp2_with fail
      refine HFA.out.mono ?_
      rintro r w1 ⟨rfl, h1⟩
      rw [HA.out]
      have B1 := Lib.hid h1
      have L1 := Lib.hid (HL.out.below h1)
      clear h1
      go_wp2_with fail
      refine (HFB.out w1 L1.out).mono ?_
      rintro r w2 ⟨rfl, h2⟩
      rw [HX.out]
      have B2 : Hid (Below w.heap.size w w2) := B1.out.trans (h2.mono B1.out.size)
      clear h2
      go_wp2_with fail
      go_ret
      exact ⟨ret_bool (by rw [HC.out]), B2.out⟩
  · have HA := Lib.hid (foldAns_no hta)
    have hE : (((topicE a : Nat) : Int) == 0) = false := by rw [beq_eq_false_iff_ne]; omega
    have HC := Lib.hid (show clashB a b = false by simp [clashB, hta])
    clear hta
    go_enter Tryd.func10, Tryd.ntmps10
    go_wp2_with fail
    refine HFA.out.mono ?_
    rintro r w1 ⟨rfl, h1⟩
    rw [HA.out]
    have B1 := Lib.hid h1
    have L1 := Lib.hid (HL.out.below h1)
    clear h1
    go_wp2_with fail
    refine (HFB.out w1 L1.out).mono ?_
    rintro r w2 ⟨rfl, h2⟩
    rw [HX.out]
    have B2 : Hid (Below w.heap.size w w2) := B1.out.trans (h2.mono B1.out.size)
    clear h2
    go_wp2_with fail
    go_ret
    exact ⟨ret_bool (by rw [HC.out]), B2.out⟩

set_option maxRecDepth 100000 in
set_option maxHeartbeats 1000000 in
theorem rclash_any (a b : ByteArray) (w : World) (ha : a.size ≤ 140737488351232) (hb : b.size ≤ 140737488351232) :
    Calls Tryd.prog 11 #[.string a, .string b] w fun r w' => r = .returned (.bool (clashB a b)) ∧ Below w.heap.size w w' := by
  have HFA := Lib.hid (rfold_any a w ha)
  have HFB := Lib.hid (fun (W : World) => rfold_any b W hb)
  obtain ⟨X, hX⟩ : ∃ X, foldAns b = .tuple #[.string X, .int .i64 (topicE b : Nat)] := ⟨_, rfl⟩
  have HX := Lib.hid hX
  clear hX
  by_cases hta : topicE a = 0
  · by_cases htb : topicE b = 0
    · have HA := Lib.hid (foldAns_ok hta)
      have HB := Lib.hid (foldAns_ok htb)
      have HC := Lib.hid (show clashB a b = (!(a.toList == b.toList) && (foldS a).toList == (foldS b).toList) by simp [clashB, hta, htb])
      clear hta htb
      go_enter Tryd.func11, Tryd.ntmps11
      go_wp2_with fail
      refine HFA.out.mono ?_
      rintro r w1 ⟨rfl, h1⟩
      rw [HA.out]
      have B1 := Lib.hid h1
      clear h1
      go_wp2_with fail
      refine (HFB.out w1).mono ?_
      rintro r w2 ⟨rfl, h2⟩
      rw [HB.out]
      have B2 : Hid (Below w.heap.size w w2) := B1.out.trans (h2.mono B1.out.size)
      clear h2
      go_wp2_with fail
      all_goals
        go_ret
        refine ⟨ret_bool ?_, B2.out⟩
        first | (rw [HC.out]; done) | (rw [HC.out]; simp [*]; done) | (rw [HC.out, Bool.and_comm]; done) | (rw [HC.out, Bool.and_comm]; simp [*]; done)
    · have HA := Lib.hid (foldAns_ok hta)
      have hE : (((topicE b : Nat) : Int) == 0) = false := by rw [beq_eq_false_iff_ne]; omega
      have HC := Lib.hid (show clashB a b = false by simp [clashB, htb])
      clear hta htb
      go_enter Tryd.func11, Tryd.ntmps11
      go_wp2_with fail
      refine HFA.out.mono ?_
      rintro r w1 ⟨rfl, h1⟩
      rw [HA.out]
      have B1 := Lib.hid h1
      clear h1
      go_wp2_with fail
      refine (HFB.out w1).mono ?_
      rintro r w2 ⟨rfl, h2⟩
      rw [HX.out]
      have B2 : Hid (Below w.heap.size w w2) := B1.out.trans (h2.mono B1.out.size)
      clear h2
      go_wp2_with fail
      go_ret
      exact ⟨ret_bool (by rw [HC.out]), B2.out⟩
  · have HA := Lib.hid (foldAns_no hta)
    have hE : (((topicE a : Nat) : Int) == 0) = false := by rw [beq_eq_false_iff_ne]; omega
    have HC := Lib.hid (show clashB a b = false by simp [clashB, hta])
    clear hta
    go_enter Tryd.func11, Tryd.ntmps11
    go_wp2_with fail
    refine HFA.out.mono ?_
    rintro r w1 ⟨rfl, h1⟩
    rw [HA.out]
    have B1 := Lib.hid h1
    clear h1
    go_wp2_with fail
    refine (HFB.out w1).mono ?_
    rintro r w2 ⟨rfl, h2⟩
    rw [HX.out]
    have B2 : Hid (Below w.heap.size w w2) := B1.out.trans (h2.mono B1.out.size)
    clear h2
    go_wp2_with fail
    go_ret
    exact ⟨ret_bool (by rw [HC.out]), B2.out⟩
end Go.Proofs.YtjiblegnknhghaaDoor
