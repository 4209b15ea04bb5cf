/- The law LabelApart. -/
import Derived.Test.YtjiblegnknhghaaDoorAliveD
import Derived.Test.YtjiblegnknhghaaDoorUnDirR
namespace Go.Proofs.YtjiblegnknhghaaDoor
open Go Go.RowKit
set_option linter.unusedVariables false

theorem apart_same {a b : ByteArray} {m n : Nat} (ha : topicE a = 0) (hb : topicE b = 0) (hm : m ≤ 2147483647) (hn : n ≤ 2147483647) :
    ((dirS a m).toList == (dirS b n).toList) = (a.toList == b.toList && ((m : Int) == (n : Int))) := by
  rw [Bool.eq_iff_iff, Bool.and_eq_true, beq_iff_eq, beq_iff_eq, beq_iff_eq]
  constructor
  · intro h
    have e : dirS a m = dirS b n := by
      rw [Lib.toList_data, Lib.toList_data] at h
      rw [← strOf_data (dirS a m), h, strOf_data]
    have h1 := ud_dir ha hm
    rw [e, ud_dir hb hn] at h1
    injection h1 with h1
    injection h1 with h2 h3
    rw [h2, h3]
    exact ⟨rfl, rfl⟩
  · rintro ⟨h1, h2⟩
    have e : a = b := by
      rw [Lib.toList_data, Lib.toList_data] at h1
      rw [← strOf_data a, h1, strOf_data]
    have e2 : m = n := by omega
    rw [e, e2]

set_option maxRecDepth 100000 in
set_option maxHeartbeats 1000000 in
theorem apart_any (a : ByteArray) (p : Int) (b : ByteArray) (q : Int) (w : World) (ha : a.size ≤ 140737488351232) (hp : -2147483648 ≤ p ∧ p ≤ 2147483647) (hb : b.size ≤ 140737488351232) (hq : -2147483648 ≤ q ∧ q ≤ 2147483647) (hl : LibOk w) (he : ErrOk w) :
    Calls Tryd.prog 6 #[.string a, .int .i32 p, .string b, .int .i32 q] w fun r w' => r = .returned (.bool true) ∧ Below w.heap.size w w' := by
  have HL := Lib.hid hl
  have HE := Lib.hid he
  have HAL := Lib.hid (alive_any w hl)
  have HTA := Lib.hid (fun (W : World) => rtopic_any a W ha)
  have HTB := Lib.hid (fun (W : World) => rtopic_any b W hb)
  clear hl he
  by_cases hp0 : p < 0
  · go_enter Tryd.func6, Tryd.ntmps6
    go_wp2_with fail
    refine HAL.out.mono ?_
    rintro r w1 ⟨rfl, h1⟩
    have B1 := Lib.hid h1
    clear h1
    go_wp2_with fail
    go_ret
    exact ⟨rfl, B1.out⟩
  by_cases hq0 : q < 0
  · go_enter Tryd.func6, Tryd.ntmps6
    go_wp2_with fail
    refine HAL.out.mono ?_
    rintro r w1 ⟨rfl, h1⟩
    have B1 := Lib.hid h1
    clear h1
    go_wp2_with fail
    go_ret
    exact ⟨rfl, B1.out⟩
  obtain ⟨m, rfl⟩ := Int.eq_ofNat_of_zero_le (show 0 ≤ p by omega)
  obtain ⟨n, rfl⟩ := Int.eq_ofNat_of_zero_le (show 0 ≤ q by omega)
  by_cases hta : topicE a = 0
  · have HTA0 := Lib.hid hta
    by_cases htb : topicE b = 0
    · have HTB0 := Lib.hid htb
      have HDA := Lib.hid (fun (W : World) (h : LibOk W) => dir_any a W ha (m : Int) hp h)
      have HDB := Lib.hid (fun (W : World) (h : LibOk W) => dir_any b W hb (n : Int) hq h)
      have HA := Lib.hid (dirAns_ok (n := m) hta)
      have HB := Lib.hid (dirAns_ok (n := n) htb)
      have hts := topic_short hta
      have hsz : (dirS a m).size ≤ 140737488351232 := by
        have h1 := dd_size m (by omega)
        have h2 : (dirS a m).size = a.size + 1 + (Lib.decDigits m).length := by
          rw [← size_toList, dirS_data, List.length_append, List.length_cons, size_toList]
          omega
        rw [strOf_size] at h1
        omega
      have HU := Lib.hid (fun (W : World) (h : LibOk W) (h2 : ErrOk W) => undir_any (dirS a m) W hsz h h2)
      have HUA := Lib.hid (udAns_some (ud_dir hta (by omega : m ≤ 2147483647)))
      have HS := Lib.hid (apart_same hta htb (by omega : m ≤ 2147483647) (by omega : n ≤ 2147483647))
      clear hta htb hts
      go_enter Tryd.func6, Tryd.ntmps6
      go_wp2_with fail
      refine HAL.out.mono ?_
      rintro r w1 ⟨rfl, h1⟩
      have B1 := Lib.hid h1
      clear h1
      go_wp2_with fail
      refine (HTA.out w1).mono ?_
      rintro r w2 ⟨rfl, rfl⟩
      rw [HTA0.out]
      go_wp2_with fail
      refine (HTB.out w1).mono ?_
      rintro r w2 ⟨rfl, rfl⟩
      rw [HTB0.out]
      have L1 := Lib.hid (HL.out.below B1.out)
      go_wp2_with fail
      refine (HDA.out w1 L1.out).mono ?_
      rintro r w2 ⟨rfl, h2⟩
      rw [HA.out]
      have B2 : Hid (Below w.heap.size w w2) := B1.out.trans (h2.mono B1.out.size)
      have L2 := Lib.hid (HL.out.below B2.out)
      clear h2
      go_wp2_with fail
      refine (HDB.out w2 L2.out).mono ?_
      rintro r w3 ⟨rfl, h3⟩
      rw [HB.out]
      have B3 : Hid (Below w.heap.size w w3) := B2.out.trans (h3.mono B2.out.size)
      have L3 := Lib.hid (HL.out.below B3.out)
      have E3 := Lib.hid (HE.out.below B3.out)
      clear h3
      go_wp2_with fail
      refine (HU.out w3 L3.out E3.out).mono ?_
      rintro r w4 ⟨rfl, h4⟩
      rw [HUA.out]
      have B4 : Hid (Below w.heap.size w w4) := B3.out.trans (h4.mono B3.out.size)
      clear h4
      go_wp2_with fail
      all_goals
        go_ret
        exact ⟨ret_bool (by simp [HS.out]; first | done | (intro _; assumption) | (left; assumption)), B4.out⟩
    · have hE : (((topicE b : Nat) : Int) != 0) = true := by rw [bne_iff_ne]; omega
      clear hta htb
      go_enter Tryd.func6, Tryd.ntmps6
      go_wp2_with fail
      refine HAL.out.mono ?_
      rintro r w1 ⟨rfl, h1⟩
      have B1 := Lib.hid h1
      clear h1
      go_wp2_with fail
      refine (HTA.out w1).mono ?_
      rintro r w2 ⟨rfl, rfl⟩
      rw [HTA0.out]
      go_wp2_with fail
      refine (HTB.out w1).mono ?_
      rintro r w2 ⟨rfl, rfl⟩
      go_wp2_with fail
      go_ret
      exact ⟨rfl, B1.out⟩
  · have hE : (((topicE a : Nat) : Int) != 0) = true := by rw [bne_iff_ne]; omega
    clear hta
    go_enter Tryd.func6, Tryd.ntmps6
    go_wp2_with fail
    refine HAL.out.mono ?_
    rintro r w1 ⟨rfl, h1⟩
    have B1 := Lib.hid h1
    clear h1
    go_wp2_with fail
    refine (HTA.out w1).mono ?_
    rintro r w2 ⟨rfl, rfl⟩
    go_wp2_with fail
    go_ret
    exact ⟨rfl, B1.out⟩
end Go.Proofs.YtjiblegnknhghaaDoor
