/- The walk of the document's UnDir. -/
import Derived.Test.YtjiblegnknhghaaDoorUnDir
namespace Go.Proofs.YtjiblegnknhghaaDoor
open Go Go.RowKit
set_option linter.unusedVariables false

theorem idx_yes (s : ByteArray) (k : Nat) (h : k < s.size) (hc : (s[k]'h).toNat = 45) : Lib.lastIdx s 45 (k + 1) = k := by
  apply Lib.lastIdx_hit
  have e : s.data[k]! = s[k]'h := by rw [getElem!_pos s.data k h]; rfl
  rw [e, hc]
  rfl
theorem idx_no (s : ByteArray) (k : Nat) (h : k < s.size) (hc : (s[k]'h).toNat ≠ 45) : Lib.lastIdx s 45 (k + 1) = Lib.lastIdx s 45 k := by
  apply Lib.lastIdx_miss
  have e : s.data[k]! = s[k]'h := by rw [getElem!_pos s.data k h]; rfl
  rw [e]
  omega
theorem idx_le (s : ByteArray) : ∀ k, -1 ≤ Lib.lastIdx s 45 k ∧ Lib.lastIdx s 45 k < k
  | 0 => by show (-1 : Int) ≤ -1 ∧ (-1 : Int) < 0; decide
  | k + 1 => by
    have := idx_le s k
    unfold Lib.lastIdx
    split <;> omega

section
variable (s : ByteArray) (w : World) (hm : s.size ≤ 140737488351232)
include hm
set_option maxRecDepth 100000 in
set_option maxHeartbeats 2000000 in
theorem rundir_any : Calls Tryd.prog 21 #[.string s] w fun r w' => r = .returned (udAns s) ∧ Below w.heap.size w w' := by
  go_enter Tryd.func21, Tryd.ntmps21
  go_wp2_with fail
  go_loop [5, 6] (fun a i => ∃ k : Nat, i = .int .i64 (k : Int) ∧ a = .int .i64 (Lib.lastIdx s 45 k) ∧ k ≤ s.size) (fun _ i => s.size - (RowKit.intOf i).toNat)
  case atStart => exact ⟨0, rfl, rfl, Nat.zero_le _⟩
  case round =>
    obtain ⟨k, rfl, rfl, hk⟩ := hrel
    have hle := idx_le s k
    by_cases hp : k < s.size
    · by_cases hc : (s[k]'hp).toNat = 45
      · have HY := Lib.hid (idx_yes s k hp hc)
        go_wp2_with fail
        go_round
        case rel => exact ⟨k + 1, by go_num, by rw [HY.out], by omega⟩
        case measure => simp [RowKit.intOf]; omega
      · have HY := Lib.hid (idx_no s k hp hc)
        have hq : (((s[k]'hp).toNat : Int) == 45) = false := by rw [beq_eq_false_iff_ne]; omega
        clear hc
        go_wp2_with fail
        go_round
        case rel => exact ⟨k + 1, by go_num, by rw [HY.out], by omega⟩
        case measure => simp [RowKit.intOf]; omega
    · obtain rfl : k = s.size := by omega
      rcases lst_cases s with ⟨h1, hn⟩ | ⟨i, hi, h1, hn, hs⟩
      · have h1' : Lib.lastIdx s 45 s.size = -1 := h1
        have HA := Lib.hid (udAns_none hn)
        clear h1 hn hle
        rw [h1']
        go_wp2_with fail
        go_ret3
        exact ⟨by rw [HA.out]; rfl, Below.refl _ _⟩
      · have h1' : Lib.lastIdx s 45 s.size = i := h1
        rw [h1']
        have het := ex0_size s i
        have HT := Lib.hid (rtopic_any (s.extract 0 i) w (by omega))
        clear h1 h1' hle
        by_cases hend : i = s.size - 1
        · have HA := Lib.hid (udAns_none (hn.trans (show udAt s i = none by
            cases hu : udAt s i with
            | none => rfl
            | some x =>
              obtain ⟨_, _, u3, _⟩ := ud_at hs hu
              rw [List.drop_eq_nil_iff.2 (by rw [size_toList]; omega)] at u3
              obtain ⟨c, r, hc, _⟩ := decDigits_head x.2
              rw [hc] at u3
              cases u3)))
          have hq : ((i : Int) == (s.size : Int) - 1) = true := by rw [beq_iff_eq]; omega
          clear hn hs hend
          go_wp2_with fail
          go_ret3
          exact ⟨by rw [HA.out]; rfl, Below.refl _ _⟩
        · have hq : ((i : Int) == (s.size : Int) - 1) = false := by rw [beq_eq_false_iff_ne]; omega
          clear hend
          by_cases ht : topicE (s.extract 0 i) = 0
          · have HT0 := Lib.hid ht
            have HN := Lib.hid (show Calls Tryd.prog 35 #[.string s, .int .i64 ((i : Int) + 1), .int .i64 1, .int .i64 2147483647] w fun r w' => r = .returned (numAns (s.data.toList.drop (i + 1)) 1 2147483647) ∧ Below w.heap.size w w' by
              have h := number_any s w (i + 1) 1 2147483647 hm (by omega) (by decide) (by decide) (by decide) (by decide)
              rw [show ((i + 1 : Nat) : Int) = (i : Int) + 1 by omega] at h
              exact h)
            cases hr : refNum 2147483647 0 (s.data.toList.drop (i + 1)) with
            | none =>
              have HX := Lib.hid (show numAns (s.data.toList.drop (i + 1)) 1 2147483647 = .tuple #[.int .i64 0, .bool false] by unfold numAns; rw [hr])
              have HA := Lib.hid (udAns_none (hn.trans (show udAt s i = none by unfold udAt; rw [if_pos ht, hr])))
              clear hn hs hr ht
              go_wp2_with fail
              refine HT.out.mono ?_
              rintro r w1 ⟨rfl, rfl⟩
              rw [HT0.out]
              go_wp2_with fail
              refine HN.out.mono ?_
              rintro r w2 ⟨rfl, h2⟩
              rw [HX.out]
              have B2 := Lib.hid h2
              clear h2
              go_wp2_with fail
              go_ret3
              exact ⟨by rw [HA.out]; rfl, B2.out⟩
            | some n =>
              by_cases hd : s.data.toList.drop (i + 1) = Lib.decDigits n
              · have hnl := refNum_le _ (by decide) _ _ _ (by decide) hr
                have HX := Lib.hid (show numAns (s.data.toList.drop (i + 1)) 1 2147483647 = .tuple #[.int .i64 (n : Int), .bool true] by unfold numAns; rw [hr]; simp [hd, dec_one])
                have HA := Lib.hid (udAns_some (hn.trans (show udAt s i = some (s.extract 0 i, n) by unfold udAt; rw [if_pos ht, hr]; simp only; rw [if_pos hd])))
                clear hn hs hr ht hd
                go_wp2_with fail
                refine HT.out.mono ?_
                rintro r w1 ⟨rfl, rfl⟩
                rw [HT0.out]
                go_wp2_with fail
                refine HN.out.mono ?_
                rintro r w2 ⟨rfl, h2⟩
                rw [HX.out]
                have B2 := Lib.hid h2
                clear h2
                go_wp2_with fail
                go_ret3
                exact ⟨by rw [HA.out]; rfl, B2.out⟩
              · have HX := Lib.hid (show numAns (s.data.toList.drop (i + 1)) 1 2147483647 = .tuple #[.int .i64 (n : Int), .bool false] by unfold numAns; rw [hr]; simp [hd, dec_one])
                have HA := Lib.hid (udAns_none (hn.trans (show udAt s i = none by unfold udAt; rw [if_pos ht, hr]; simp only; rw [if_neg hd])))
                clear hn hs hr ht hd
                go_wp2_with fail
                refine HT.out.mono ?_
                rintro r w1 ⟨rfl, rfl⟩
                rw [HT0.out]
                go_wp2_with fail
                refine HN.out.mono ?_
                rintro r w2 ⟨rfl, h2⟩
                rw [HX.out]
                have B2 := Lib.hid h2
                clear h2
                go_wp2_with fail
                go_ret3
                exact ⟨by rw [HA.out]; rfl, B2.out⟩
          · have hE : (((topicE (s.extract 0 i) : Nat) : Int) != 0) = true := by rw [bne_iff_ne]; omega
            have HA := Lib.hid (udAns_none (hn.trans (show udAt s i = none by unfold udAt; rw [if_neg ht])))
            clear hn hs ht
            go_wp2_with fail
            refine HT.out.mono ?_
            rintro r w1 ⟨rfl, rfl⟩
            go_wp2_with fail
            go_ret3
            exact ⟨by rw [HA.out]; rfl, Below.refl _ _⟩
end
end Go.Proofs.YtjiblegnknhghaaDoor
