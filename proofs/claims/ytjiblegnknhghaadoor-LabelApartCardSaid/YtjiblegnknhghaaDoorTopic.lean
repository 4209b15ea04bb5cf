/- The names of topics: the walks of letter and Topic in both texts. -/
import Derived.Test.YtjiblegnknhghaaDoorRunesD
namespace Go.Proofs.YtjiblegnknhghaaDoor
open Go Go.RowKit
set_option linter.unusedVariables false

theorem ret_bool {a b : Bool} (h : a = b) : Ending.returned (.bool a) = .returned (.bool b) := by rw [h]
theorem ret_i64 {a b : Int} (h : a = b) : Ending.returned (.int .i64 a) = .returned (.int .i64 b) := by rw [h]

/-- May the number stand in a topic's name? -/
def letN (n : Int) : Bool := decide ((97 ≤ n ∧ n ≤ 122) ∨ (65 ≤ n ∧ n ≤ 90) ∨ (48 ≤ n ∧ n ≤ 57) ∨ n = 46 ∨ n = 95 ∨ n = 45)

set_option maxHeartbeats 1000000 in
theorem letter_any (n : Int) (w : World) : Calls Tryd.prog 27 #[.int .i32 n] w fun r w' => r = .returned (.bool (letN n)) ∧ w = w' := by
  go_enter Tryd.func27, Tryd.ntmps27
  go_wp2
  all_goals
    go_ret
    exact ⟨ret_bool (by simp only [letN]; rw [Bool.eq_iff_iff]; simp; try omega), rfl⟩

set_option maxHeartbeats 1000000 in
theorem rletter_any (n : Int) (w : World) : Calls Tryd.prog 28 #[.int .u8 n] w fun r w' => r = .returned (.bool (letN n)) ∧ w = w' := by
  go_enter Tryd.func28, Tryd.ntmps28
  go_wp2
  all_goals
    go_ret
    exact ⟨ret_bool (by simp only [letN]; rw [Bool.eq_iff_iff]; simp; try omega), rfl⟩

/-- All of the first k bytes are letters. -/
def letsTo (s : ByteArray) (k : Nat) : Prop := ∀ j, j < k → letN (bat s j : Nat) = true
def letsB (s : ByteArray) : Bool := (List.range s.size).all fun j => letN (bat s j : Nat)
theorem letsB_true {s : ByteArray} (h : letsTo s s.size) : letsB s = true := by
  unfold letsB
  rw [List.all_eq_true]
  exact fun j hj => h j (List.mem_range.1 hj)
theorem letsB_false {s : ByteArray} {i : Nat} (hi : i < s.size) (h : letN (bat s i : Nat) = false) : letsB s = false := by
  unfold letsB
  rw [List.all_eq_false]
  exact ⟨i, List.mem_range.2 hi, by simp [h]⟩
/-- The names that are no names. -/
def noName (s : ByteArray) : Prop := s.toList = [] ∨ s.toList = [46] ∨ s.toList = [46, 46]
instance (s : ByteArray) : Decidable (noName s) := by unfold noName; infer_instance
/-- The error's number of a topic's name. -/
def topicE (s : ByteArray) : Nat := if noName s then 40 else if 64 < s.size then 4 else if letsB s = true then 0 else 41

theorem get_bat (s : ByteArray) (k : Nat) (h : k < s.size) : (s[k]'h).toNat = bat s k := by
  have e : s.get! k = s[k]'h := by simp [ByteArray.get!, getElem!_pos, h]; rfl
  unfold bat
  rw [e]

/-- What the range finds at a byte that is no letter: no letter. -/
theorem dec_ascii (s : ByteArray) (i : Nat) (h : bat s i < 128) : Utf8.decode s i = (bat s i, 1) := by
  rw [decode_decN]
  unfold decN
  rw [if_pos h]
theorem dec_high (s : ByteArray) (i : Nat) (h : 128 ≤ bat s i) : 128 ≤ (Utf8.decode s i).1 := by
  rw [decode_decN]
  have hb := bat_lt s i
  unfold decN
  rw [if_neg (by omega)]
  repeat' split
  all_goals (first | omega | (simp at *; omega))

section
variable (s : ByteArray) (w : World)
set_option maxRecDepth 100000 in
set_option maxHeartbeats 1000000 in
theorem topic_any (hm : s.size ≤ 140737488351232) : Calls Tryd.prog 14 #[.string s] w fun r w' => r = .returned (.int .i64 (topicE s : Nat)) ∧ Below w.heap.size w w' := by
  by_cases hno : noName s
  · have HE := Lib.hid (show topicE s = 40 by unfold topicE; rw [if_pos hno])
    rcases hno with h | h | h
    all_goals
      go_enter Tryd.func14, Tryd.ntmps14
      go_wp2_with fail
      go_ret
      exact ⟨by rw [HE.out]; rfl, Below.refl _ _⟩
  · have hh : ¬ s.toList = [] ∧ ¬ s.toList = [46] ∧ ¬ s.toList = [46, 46] := by unfold noName at hno; simpa using hno
    obtain ⟨h1, h2, h3⟩ := hh
    have h4 : s.toList.isEmpty = false := by simpa using h1
    have h5 : (s.toList == [46]) = false := by simpa using h2
    have h6 : (s.toList == [46, 46]) = false := by simpa using h3
    by_cases hl : 64 < s.size
    · have HE := Lib.hid (show topicE s = 4 by unfold topicE; rw [if_neg hno, if_pos hl])
      clear hno
      go_enter Tryd.func14, Tryd.ntmps14
      go_wp2_with fail
      go_ret
      exact ⟨by rw [HE.out]; rfl, Below.refl _ _⟩
    · have HE := Lib.hid (show topicE s = if letsB s = true then 0 else 41 by unfold topicE; rw [if_neg hno, if_neg hl])
      clear hno
      go_enter Tryd.func14, Tryd.ntmps14
      go_wp2_with fail
      go_loopw [4] (fun _ w' => ∃ pos : Nat, w' = w.iter s pos ∧ pos ≤ s.size ∧ letsTo s pos) (fun _ w' => s.size - w'.iterPos w.heap.size)
      case atStart => exact ⟨0, rfl, Nat.zero_le _, fun j hj => absurd hj (by omega)⟩
      case round =>
        obtain ⟨pos, rfl, hpos, hlt⟩ := hrel
        have LT := Lib.hid hlt
        have HB := Lib.hid (fun p : Nat => ((Below.refl w.heap.size w).alloc (Nat.le_refl _) (.stringIter s p)))
        clear hlt
        by_cases hp : pos < s.size
        · have hnx : ∀ ty, (Instr.next (.pointer (some ⟨w.heap.size, 0, none⟩)) true ty).run Tryd.prog (w.iter s pos) = _ := fun ty => run_next_any w s pos ty hp
          by_cases ha : bat s pos < 128
          · rw [dec_ascii s pos ha] at hnx
            cases hle : letN (bat s pos : Nat) with
            | true =>
              have HL := Lib.hid hle
              clear hle
              go_wp2_with (go_at_call 27; refine (letter_any _ _).mono ?_; rintro r w' ⟨rfl, rfl⟩; rw [HL.out])
              go_roundw
              case rel =>
                refine ⟨pos + 1, rfl, hp, fun j hj => ?_⟩
                rcases Nat.lt_or_ge j pos with h | h
                · exact LT.out j h
                · obtain rfl : j = pos := by omega
                  exact HL.out
              case measure =>
                rw [World.iterPos_iter, World.iterPos_iter]
                omega
            | false =>
              have HL := Lib.hid hle
              clear hle
              go_wp2_with (go_at_call 27; refine (letter_any _ _).mono ?_; rintro r w' ⟨rfl, rfl⟩; rw [HL.out])
              go_ret
              exact ⟨by rw [HE.out, letsB_false hp HL.out]; rfl, HB.out _⟩
          · have hle2 : letN ((Utf8.decode s pos).1 : Nat) = false := by
              have := dec_high s pos (by omega)
              unfold letN
              simp
              omega
            have HL2 := Lib.hid hle2
            have hle : letN (bat s pos : Nat) = false := by
              unfold letN
              simp
              omega
            have HL := Lib.hid hle
            clear hle hle2
            go_wp2_with (go_at_call 27; refine (letter_any _ _).mono ?_; rintro r w' ⟨rfl, rfl⟩; rw [HL2.out])
            go_ret
            exact ⟨by rw [HE.out, letsB_false hp HL.out]; rfl, HB.out _⟩
        · have hnx : ∀ ty, (Instr.next (.pointer (some ⟨w.heap.size, 0, none⟩)) true ty).run Tryd.prog (w.iter s pos) = _ := fun ty => run_next_end w s pos ty hp
          have hps : pos = s.size := by omega
          subst hps
          go_wp2_with fail
          go_ret
          exact ⟨by rw [HE.out, letsB_true LT.out]; rfl, HB.out _⟩

set_option maxRecDepth 100000 in
set_option maxHeartbeats 1000000 in
theorem rtopic_any (hm : s.size ≤ 140737488351232) : Calls Tryd.prog 15 #[.string s] w fun r w' => r = .returned (.int .i64 (topicE s : Nat)) ∧ w = w' := by
  have hdl : s.toList.length = s.size := by rw [Lib.toList_data]; rfl
  by_cases hno : noName s
  · have HE := Lib.hid (show topicE s = 40 by unfold topicE; rw [if_pos hno])
    rcases hno with h | h | h
    all_goals
      rw [h] at hdl
      simp only [List.length_nil, List.length_cons] at hdl
      have hsz := hdl.symm
      clear hdl
      go_enter Tryd.func15, Tryd.ntmps15
      go_wp2_with fail
      go_ret
      exact ⟨by rw [HE.out]; rfl, rfl⟩
  · have hh : ¬ s.toList = [] ∧ ¬ s.toList = [46] ∧ ¬ s.toList = [46, 46] := by unfold noName at hno; simpa using hno
    obtain ⟨h1, h2, h3⟩ := hh
    have hpos : 0 < s.size := by
      rcases Nat.eq_zero_or_pos s.size with h | h
      · rw [h] at hdl
        exact absurd (List.eq_nil_of_length_eq_zero hdl) h1
      · exact h
    have h0 : ((s.size : Int) == 0) = false := by rw [beq_eq_false_iff_ne]; omega
    have h5 : (s.toList == [46]) = false := by simpa using h2
    have h6 : (s.toList == [46, 46]) = false := by simpa using h3
    clear h1 hdl
    by_cases hl : 64 < s.size
    · have HE := Lib.hid (show topicE s = 4 by unfold topicE; rw [if_neg hno, if_pos hl])
      clear hno
      go_enter Tryd.func15, Tryd.ntmps15
      go_wp2_with fail
      go_ret
      exact ⟨by rw [HE.out]; rfl, rfl⟩
    · have HE := Lib.hid (show topicE s = if letsB s = true then 0 else 41 by unfold topicE; rw [if_neg hno, if_neg hl])
      clear hno
      go_enter Tryd.func15, Tryd.ntmps15
      go_wp2_with fail
      go_loop [3] (fun i => ∃ k : Nat, i = .int .i64 (k : Int) ∧ k ≤ s.size ∧ letsTo s k) (fun i => s.size - (intOf i).toNat)
      case atStart => exact ⟨0, rfl, Nat.zero_le _, fun j hj => absurd hj (by omega)⟩
      case round =>
        obtain ⟨k, rfl, hk, hlt⟩ := hrel
        have LT := Lib.hid hlt
        clear hlt
        by_cases hp : k < s.size
        · cases hle : letN (bat s k : Nat) with
          | true =>
            have HL : Hid (letN ((s[k]'hp).toNat : Nat) = true) := by show _ = _; rw [get_bat]; exact hle
            have HLT := Lib.hid hle
            clear hle
            go_wp2_with (go_at_call 28; refine (rletter_any _ _).mono ?_; rintro r w' ⟨rfl, rfl⟩; rw [HL.out])
            go_round
            case rel =>
              refine ⟨k + 1, by go_num, by omega, fun j hj => ?_⟩
              rcases Nat.lt_or_ge j k with h | h
              · exact LT.out j h
              · obtain rfl : j = k := by omega
                exact HLT.out
            case measure => simp [intOf]; omega
          | false =>
            have HL : Hid (letN ((s[k]'hp).toNat : Nat) = false) := by show _ = _; rw [get_bat]; exact hle
            have HLT := Lib.hid hle
            clear hle
            go_wp2_with (go_at_call 28; refine (rletter_any _ _).mono ?_; rintro r w' ⟨rfl, rfl⟩; rw [HL.out])
            go_ret
            exact ⟨by rw [HE.out, letsB_false hp HLT.out]; rfl, rfl⟩
        · have hps : k = s.size := by omega
          subst hps
          go_wp2_with fail
          go_ret
          exact ⟨by rw [HE.out, letsB_true LT.out]; rfl, rfl⟩
end
end Go.Proofs.YtjiblegnknhghaaDoor
