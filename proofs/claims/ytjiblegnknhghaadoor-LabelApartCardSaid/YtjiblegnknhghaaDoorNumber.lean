/- The walk of the document's number. -/
import Derived.Test.YtjiblegnknhghaaDoorDir
namespace Go.Proofs.YtjiblegnknhghaaDoor
open Go Go.RowKit
set_option linter.unusedVariables false

/-- What number answers over these bytes. -/
def numAns (l : List UInt8) (least most : Nat) : Value :=
  match refNum most 0 l with
  | none => .tuple #[.int .i64 0, .bool false]
  | some n => .tuple #[.int .i64 (n : Int), .bool (l == dec n least)]

theorem drop_get (s : ByteArray) (k : Nat) (h : k < s.size) : s.data.toList.drop k = s[k]'h :: s.data.toList.drop (k + 1) := by
  have hk : k < s.data.toList.length := by rw [Array.length_toList]; exact h
  rw [List.drop_eq_getElem_cons hk]
  rfl
theorem extract_to (s : ByteArray) (k : Nat) : (s.extract k s.size).toList = s.data.toList.drop k := by
  rw [Lib.extract_toList, List.take_of_length_le]
  rw [List.length_drop, Array.length_toList]
  exact Nat.le_refl _

section
variable (s : ByteArray) (w : World) (at' least most : Nat) (hm : s.size ≤ 140737488351232) (hat : at' ≤ s.size) (h1 : 1 ≤ least) (h20 : least ≤ 20) (h9 : 9 ≤ most) (hM : most ≤ 4611686018427387904)
include hm hat h1 h20 h9 hM
set_option maxRecDepth 100000 in
set_option maxHeartbeats 2000000 in
theorem number_any : Calls Tryd.prog 35 #[.string s, .int .i64 (at' : Int), .int .i64 (least : Int), .int .i64 (most : Int)] w fun r w' => r = .returned (numAns (s.data.toList.drop at') least most) ∧ Below w.heap.size w w' := by
  obtain ⟨L, hL⟩ : ∃ L, L = s.data.toList.drop at' := ⟨_, rfl⟩
  have HL := Lib.hid hL
  have HD := Lib.hid (fun (W : World) (n : Nat) (hn : n ≤ 9223372036854775807) => decimal_any W n least h1 h20 hn)
  rw [← hL]
  clear hL h1 h20
  go_enter Tryd.func35, Tryd.ntmps35
  go_wp2_with fail
  go_loop [10, 11] (fun n i => ∃ (acc k : Nat), n = .int .i64 (acc : Int) ∧ i = .int .i64 (k : Int) ∧ at' ≤ k ∧ k ≤ s.size ∧ acc ≤ most ∧ refNum most 0 L = refNum most acc (s.data.toList.drop k)) (fun _ i => s.size - (RowKit.intOf i).toNat)
  case atStart => exact ⟨0, at', rfl, rfl, Nat.le_refl _, hat, Nat.zero_le _, by rw [HL.out]⟩
  case round =>
    obtain ⟨acc, k, rfl, rfl, hk1, hk2, hacc, href⟩ := hrel
    by_cases hp : k < s.size
    · rw [drop_get s k hp, refNum] at href
      by_cases hd : 48 ≤ (s[k]'hp).toNat ∧ (s[k]'hp).toNat ≤ 57
      · rw [if_pos (show isDig _ from hd)] at href
        obtain ⟨q1, q2⟩ := hd
        have p1 : ¬ (s[k]'hp).toNat < 48 := by omega
        have p2 : ¬ 57 < (s[k]'hp).toNat := by omega
        by_cases hov : (most - ((s[k]'hp).toNat - 48)) / 10 < acc
        · rw [if_pos hov] at href
          have q3 : ((most : Int) - (((s[k]'hp).toNat : Int) - 48)) / 10 < (acc : Int) := by omega
          have HR := Lib.hid (show numAns L least most = .tuple #[.int .i64 0, .bool false] by unfold numAns; rw [href])
          clear href hov
          go_wp2_with fail
          go_ret2
          exact ⟨by rw [HR.out]; rfl, Below.refl _ _⟩
        · rw [if_neg hov] at href
          have q3 : ¬ ((most : Int) - (((s[k]'hp).toNat : Int) - 48)) / 10 < (acc : Int) := by omega
          have q4 : acc * 10 + ((s[k]'hp).toNat - 48) ≤ most := by omega
          have q5 : (acc : Int) * 10 + (((s[k]'hp).toNat : Int) - 48) = ((acc * 10 + ((s[k]'hp).toNat - 48) : Nat) : Int) := by omega
          have Q5 := Lib.hid q5
          have HREF := Lib.hid href
          clear href hov q5
          go_wp2_with fail
          go_round
          case rel => exact ⟨_, k + 1, by rw [← Q5.out], by go_num, by omega, by omega, q4, HREF.out⟩
          case measure => simp [RowKit.intOf]; omega
      · rw [if_neg (show ¬ isDig _ from hd)] at href
        have HR := Lib.hid (show numAns L least most = .tuple #[.int .i64 0, .bool false] by unfold numAns; rw [href])
        clear href
        by_cases q1 : (s[k]'hp).toNat < 48
        · clear hd
          go_wp2_with fail
          go_ret2
          exact ⟨by rw [HR.out]; rfl, Below.refl _ _⟩
        · have q2 : 57 < (s[k]'hp).toNat := by omega
          clear hd
          go_wp2_with fail
          go_ret2
          exact ⟨by rw [HR.out]; rfl, Below.refl _ _⟩
    · obtain rfl : k = s.size := by omega
      have hnil : s.data.toList.drop s.size = [] := by
        rw [List.drop_eq_nil_iff, Array.length_toList]
        exact Nat.le_refl _
      rw [hnil, refNum] at href
      have HR := Lib.hid (show numAns L least most = .tuple #[.int .i64 (acc : Int), .bool (L == dec acc least)] by unfold numAns; rw [href])
      clear href hnil
      go_wp2_with fail
      go_region_with (go_at_call 32; refine (HD.out _ acc (by omega)).mono ?_; rintro r w' ⟨rfl, hb⟩)
      have HB := Lib.hid ((Below.refl w.heap.size w).drew.trans hb)
      have HEQ := Lib.hid (show ((s.extract at' s.size).toList == (strOf (dec acc least)).toList) = (L == dec acc least) by rw [extract_to, ← HL.out, Lib.toList_data]; simp [strOf])
      clear hb
      go_wp2_with fail
      go_ret2
      refine ⟨?_, HB.out⟩
      rw [HR.out, ← HEQ.out]
      rfl
end
end Go.Proofs.YtjiblegnknhghaaDoor
