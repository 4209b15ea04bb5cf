/- LbTopic, LbFoldP, LbFold as one text (a claim holds at most 60 files). -/
import Derived.Test.YtciikcmiiebfpaaGreatDoorLbRunesD
import Derived.Lib.Replace
import Derived.Test.YtciikcmiiebfpaaGreatDoorShelf
import Derived.Lib.AppendIntMem

/- LbTopic -/
section
/- The names of topics: the walks of letter and Topic in both texts. -/
namespace Go.Proofs.YtciikcmiiebfpaaGreatDoor.Lb
open Go Go.RowKit
set_option linter.unusedVariables false

theorem ret_bool {a b : Bool} (h : a = b) : Ending.returned (.bool a) = .returned (.bool b) := by rw [h]
/-- May the number stand in a topic's name? -/
def letN (n : Int) : Bool := decide ((97 ≤ n ∧ n ≤ 122) ∨ (65 ≤ n ∧ n ≤ 90) ∨ (48 ≤ n ∧ n ≤ 57) ∨ n = 46 ∨ n = 95 ∨ n = 45)

set_option maxHeartbeats 1000000 in
theorem letter_any (n : Int) (w : World) : Calls Tryz.prog 60 #[.int .i32 n] w fun r w' => r = .returned (.bool (letN n)) ∧ w = w' := by
  go_enter Tryz.func60, Tryz.ntmps60
  go_wp2
  all_goals
    go_ret
    exact ⟨ret_bool (by simp only [letN]; rw [Bool.eq_iff_iff]; simp; try omega), rfl⟩

set_option maxHeartbeats 1000000 in
theorem rletter_any (n : Int) (w : World) : Calls Tryz.prog 61 #[.int .u8 n] w fun r w' => r = .returned (.bool (letN n)) ∧ w = w' := by
  go_enter Tryz.func61, Tryz.ntmps61
  go_wp2
  all_goals
    go_ret
    exact ⟨ret_bool (by simp only [letN]; rw [Bool.eq_iff_iff]; simp; try omega), rfl⟩

/-- All of the first k bytes are letters. -/
def letsTo (s : ByteArray) (k : Nat) : Prop := ∀ j, j < k → letN (bat s j : Nat) = true
def letsB (s : ByteArray) : Bool := (List.range s.size).all fun j => letN (bat s j : Nat)
theorem letsB_true {s : ByteArray} (h : letsTo s s.size) : letsB s = true := by
  unfold letsB
  rw [List.all_eq_true]
  exact fun j hj => h j (List.mem_range.1 hj)
theorem letsB_false {s : ByteArray} {i : Nat} (hi : i < s.size) (h : letN (bat s i : Nat) = false) : letsB s = false := by
  unfold letsB
  rw [List.all_eq_false]
  exact ⟨i, List.mem_range.2 hi, by simp [h]⟩
/-- The names that are no names. -/
def noName (s : ByteArray) : Prop := s.toList = [] ∨ s.toList = [46] ∨ s.toList = [46, 46]
instance (s : ByteArray) : Decidable (noName s) := by unfold noName; infer_instance
/-- The error's number of a topic's name. -/
def topicE (s : ByteArray) : Nat := if noName s then 40 else if 64 < s.size then 4 else if letsB s = true then 0 else 41

theorem get_bat (s : ByteArray) (k : Nat) (h : k < s.size) : (s[k]'h).toNat = bat s k := by
  have e : s.get! k = s[k]'h := by simp [ByteArray.get!, getElem!_pos, h]; rfl
  unfold bat
  rw [e]

/-- What the range finds at a byte that is no letter: no letter. -/
theorem dec_ascii (s : ByteArray) (i : Nat) (h : bat s i < 128) : Utf8.decode s i = (bat s i, 1) := by
  rw [decode_decN]
  unfold decN
  rw [if_pos h]
theorem dec_high (s : ByteArray) (i : Nat) (h : 128 ≤ bat s i) : 128 ≤ (Utf8.decode s i).1 := by
  rw [decode_decN]
  have hb := bat_lt s i
  unfold decN
  rw [if_neg (by omega)]
  repeat' split
  all_goals (first | omega | (simp at *; omega))

section
variable (s : ByteArray) (w : World)
set_option maxRecDepth 100000 in
set_option maxHeartbeats 1000000 in
theorem topic_any (hm : s.size ≤ 140737488351232) : Calls Tryz.prog 24 #[.string s] w fun r w' => r = .returned (.int .i64 (topicE s : Nat)) ∧ Below w.heap.size w w' := by
  by_cases hno : noName s
  · have HE := Lib.hid (show topicE s = 40 by unfold topicE; rw [if_pos hno])
    rcases hno with h | h | h
    all_goals
      go_enter Tryz.func24, Tryz.ntmps24
      go_wp2_with fail
      go_ret
      exact ⟨by rw [HE.out]; rfl, Below.refl _ _⟩
  · have hh : ¬ s.toList = [] ∧ ¬ s.toList = [46] ∧ ¬ s.toList = [46, 46] := by unfold noName at hno; simpa using hno
    obtain ⟨h1, h2, h3⟩ := hh
    have h4 : s.toList.isEmpty = false := by simpa using h1
    have h5 : (s.toList == [46]) = false := by simpa using h2
    have h6 : (s.toList == [46, 46]) = false := by simpa using h3
    by_cases hl : 64 < s.size
    · have HE := Lib.hid (show topicE s = 4 by unfold topicE; rw [if_neg hno, if_pos hl])
      clear hno
      go_enter Tryz.func24, Tryz.ntmps24
      go_wp2_with fail
      go_ret
      exact ⟨by rw [HE.out]; rfl, Below.refl _ _⟩
    · have HE := Lib.hid (show topicE s = if letsB s = true then 0 else 41 by unfold topicE; rw [if_neg hno, if_neg hl])
      clear hno
      go_enter Tryz.func24, Tryz.ntmps24
      go_wp2_with fail
      go_loopw [4] (fun _ w' => ∃ pos : Nat, w' = w.iter s pos ∧ pos ≤ s.size ∧ letsTo s pos) (fun _ w' => s.size - w'.iterPos w.heap.size)
      case atStart => exact ⟨0, rfl, Nat.zero_le _, fun j hj => absurd hj (by omega)⟩
      case round =>
        obtain ⟨pos, rfl, hpos, hlt⟩ := hrel
        have LT := Lib.hid hlt
        have HB := Lib.hid (fun p : Nat => ((Below.refl w.heap.size w).alloc (Nat.le_refl _) (.stringIter s p)))
        clear hlt
        by_cases hp : pos < s.size
        · have hnx : ∀ ty, (Instr.next (.pointer (some ⟨w.heap.size, 0, none⟩)) true ty).run Tryz.prog (w.iter s pos) = _ := fun ty => run_next_any w s pos ty hp
          by_cases ha : bat s pos < 128
          · rw [dec_ascii s pos ha] at hnx
            cases hle : letN (bat s pos : Nat) with
            | true =>
              have HL := Lib.hid hle
              clear hle
              go_wp2_with (go_at_call 60; refine (letter_any _ _).mono ?_; rintro r w' ⟨rfl, rfl⟩; rw [HL.out])
              go_roundw
              case rel =>
                refine ⟨pos + 1, rfl, hp, fun j hj => ?_⟩
                rcases Nat.lt_or_ge j pos with h | h
                · exact LT.out j h
                · obtain rfl : j = pos := by omega
                  exact HL.out
              case measure =>
                rw [World.iterPos_iter, World.iterPos_iter]
                omega
            | false =>
              have HL := Lib.hid hle
              clear hle
              go_wp2_with (go_at_call 60; refine (letter_any _ _).mono ?_; rintro r w' ⟨rfl, rfl⟩; rw [HL.out])
              go_ret
              exact ⟨by rw [HE.out, letsB_false hp HL.out]; rfl, HB.out _⟩
          · have hle2 : letN ((Utf8.decode s pos).1 : Nat) = false := by
              have := dec_high s pos (by omega)
              unfold letN
              simp
              omega
            have HL2 := Lib.hid hle2
            have hle : letN (bat s pos : Nat) = false := by
              unfold letN
              simp
              omega
            have HL := Lib.hid hle
            clear hle hle2
            go_wp2_with (go_at_call 60; refine (letter_any _ _).mono ?_; rintro r w' ⟨rfl, rfl⟩; rw [HL2.out])
            go_ret
            exact ⟨by rw [HE.out, letsB_false hp HL.out]; rfl, HB.out _⟩
        · have hnx : ∀ ty, (Instr.next (.pointer (some ⟨w.heap.size, 0, none⟩)) true ty).run Tryz.prog (w.iter s pos) = _ := fun ty => run_next_end w s pos ty hp
          have hps : pos = s.size := by omega
          subst hps
          go_wp2_with fail
          go_ret
          exact ⟨by rw [HE.out, letsB_true LT.out]; rfl, HB.out _⟩

set_option maxRecDepth 100000 in
set_option maxHeartbeats 1000000 in
theorem rtopic_any (hm : s.size ≤ 140737488351232) : Calls Tryz.prog 25 #[.string s] w fun r w' => r = .returned (.int .i64 (topicE s : Nat)) ∧ w = w' := by
  have hdl : s.toList.length = s.size := by rw [Lib.toList_data]; rfl
  by_cases hno : noName s
  · have HE := Lib.hid (show topicE s = 40 by unfold topicE; rw [if_pos hno])
    rcases hno with h | h | h
    all_goals
      rw [h] at hdl
      simp only [List.length_nil, List.length_cons] at hdl
      have hsz := hdl.symm
      clear hdl
      go_enter Tryz.func25, Tryz.ntmps25
      go_wp2_with fail
      go_ret
      exact ⟨by rw [HE.out]; rfl, rfl⟩
  · have hh : ¬ s.toList = [] ∧ ¬ s.toList = [46] ∧ ¬ s.toList = [46, 46] := by unfold noName at hno; simpa using hno
    obtain ⟨h1, h2, h3⟩ := hh
    have hpos : 0 < s.size := by
      rcases Nat.eq_zero_or_pos s.size with h | h
      · rw [h] at hdl
        exact absurd (List.eq_nil_of_length_eq_zero hdl) h1
      · exact h
    have h0 : ((s.size : Int) == 0) = false := by rw [beq_eq_false_iff_ne]; omega
    have h5 : (s.toList == [46]) = false := by simpa using h2
    have h6 : (s.toList == [46, 46]) = false := by simpa using h3
    clear h1 hdl
    by_cases hl : 64 < s.size
    · have HE := Lib.hid (show topicE s = 4 by unfold topicE; rw [if_neg hno, if_pos hl])
      clear hno
      go_enter Tryz.func25, Tryz.ntmps25
      go_wp2_with fail
      go_ret
      exact ⟨by rw [HE.out]; rfl, rfl⟩
    · have HE := Lib.hid (show topicE s = if letsB s = true then 0 else 41 by unfold topicE; rw [if_neg hno, if_neg hl])
      clear hno
      go_enter Tryz.func25, Tryz.ntmps25
      go_wp2_with fail
      go_loop [3] (fun i => ∃ k : Nat, i = .int .i64 (k : Int) ∧ k ≤ s.size ∧ letsTo s k) (fun i => s.size - (intOf i).toNat)
      case atStart => exact ⟨0, rfl, Nat.zero_le _, fun j hj => absurd hj (by omega)⟩
      case round =>
        obtain ⟨k, rfl, hk, hlt⟩ := hrel
        have LT := Lib.hid hlt
        clear hlt
        by_cases hp : k < s.size
        · cases hle : letN (bat s k : Nat) with
          | true =>
            have HL : Hid (letN ((s[k]'hp).toNat : Nat) = true) := by show _ = _; rw [get_bat]; exact hle
            have HLT := Lib.hid hle
            clear hle
            go_wp2_with (go_at_call 61; refine (rletter_any _ _).mono ?_; rintro r w' ⟨rfl, rfl⟩; rw [HL.out])
            go_round
            case rel =>
              refine ⟨k + 1, by go_num, by omega, fun j hj => ?_⟩
              rcases Nat.lt_or_ge j k with h | h
              · exact LT.out j h
              · obtain rfl : j = k := by omega
                exact HLT.out
            case measure => simp [intOf]; omega
          | false =>
            have HL : Hid (letN ((s[k]'hp).toNat : Nat) = false) := by show _ = _; rw [get_bat]; exact hle
            have HLT := Lib.hid hle
            clear hle
            go_wp2_with (go_at_call 61; refine (rletter_any _ _).mono ?_; rintro r w' ⟨rfl, rfl⟩; rw [HL.out])
            go_ret
            exact ⟨by rw [HE.out, letsB_false hp HLT.out]; rfl, rfl⟩
        · have hps : k = s.size := by omega
          subst hps
          go_wp2_with fail
          go_ret
          exact ⟨by rw [HE.out, letsB_true LT.out]; rfl, rfl⟩
end
end Go.Proofs.YtciikcmiiebfpaaGreatDoor.Lb
end

/- LbFoldP -/
section
/- Plain: replacing every dot by a line below. -/
namespace Go.Proofs.YtciikcmiiebfpaaGreatDoor.Lb
open Go Go.Lib

def sub1 (c : UInt8) : UInt8 := if c = 46 then 95 else c

theorem isPre_one (b : UInt8) (l : List UInt8) : ([46] : List UInt8).isPrefixOf (b :: l) = (46 == b) := by simp [List.isPrefixOf]

theorem map_none : ∀ (l : List UInt8), l.count 46 = 0 → l.map sub1 = l
  | [], _ => rfl
  | b :: l, h => by
    rw [List.count_cons] at h
    have hb : b ≠ 46 := by rintro rfl; simp at h
    have hl : l.count 46 = 0 := by omega
    rw [List.map_cons, map_none l hl]
    simp [sub1, hb]

theorem replaceK_one : ∀ (l : List UInt8) (k : Nat), l.count 46 ≤ k → replaceK [46] [95] k l = l.map sub1
  | l, 0, h => by rw [map_none l (by omega)]; rfl
  | [], k + 1, _ => by simp [replaceK, index]
  | b :: l, k + 1, h => by
    by_cases hb : b = 46
    · subst hb
      have h0 : index (46 :: l) [46] = ((0 : Nat) : Int) := by unfold index; rw [isPre_one]; rfl
      rw [replaceK_hit _ _ _ _ 0 h0]
      have hc : l.count 46 ≤ k := by simpa using h
      simp only [List.take_zero, List.nil_append, List.length_cons, List.length_nil, Nat.zero_add, List.drop_succ_cons, List.drop_zero]
      rw [replaceK_one l k hc, List.map_cons]
      rfl
    · have hc : l.count 46 ≤ k + 1 := by
        rw [List.count_cons] at h
        omega
      have ih := replaceK_one l (k + 1) hc
      have hp : ([46] : List UInt8).isPrefixOf (b :: l) = false := by
        rw [isPre_one]
        simp only [beq_eq_false_iff_ne, ne_eq]
        exact fun e => hb e.symm
      have hs : sub1 b = b := by simp [sub1, hb]
      by_cases hi : index l [46] = -1
      · have h1 : index (b :: l) [46] = -1 := by unfold index; rw [hp, hi]; rfl
        simp only [replaceK, hi] at ih
        simp only [replaceK, h1]
        simp only [BEq.rfl, if_true] at ih ⊢
        rw [List.map_cons, ← ih, hs]
      · have hge := index_ge l [46]
        obtain ⟨i, hii⟩ : ∃ i : Nat, index l [46] = i := ⟨(index l [46]).toNat, by omega⟩
        have h1 : index (b :: l) [46] = ((i + 1 : Nat) : Int) := by
          unfold index
          rw [hp, hii]
          have : ((i : Int) == -1) = false := by rw [beq_eq_false_iff_ne]; omega
          simp [this]
        rw [replaceK_hit _ _ _ _ _ hii] at ih
        rw [replaceK_hit _ _ _ _ _ h1, List.map_cons, ← ih, hs]
        simp only [List.length_cons, List.length_nil, Nat.zero_add, List.take_succ_cons, List.cons_append]
        congr 1

theorem replaceAll_dot (l : List UInt8) : replaceAll l [46] [95] = l.map sub1 := by
  unfold replaceAll replace
  rw [if_neg (by decide)]
  refine replaceK_one l _ ?_
  unfold replaceNum
  rw [if_pos (.inl (by decide)), count_one]
  exact Nat.le_refl _
end Go.Proofs.YtciikcmiiebfpaaGreatDoor.Lb
end

/- LbFold -/
section
/- Fold in both texts. -/
namespace Go.Proofs.YtciikcmiiebfpaaGreatDoor.Lb
open Go Go.RowKit
set_option linter.unusedVariables false

/-- What the library's code reads of its own variables. -/
structure LibOk (w : World) : Prop where
  tab : Lib.TabIs Tryz.prog w "internal/strconv.uint64pow10" .u64 Lib.pow10Tab
  max : ∃ m : Int, w.cell? ⟨4, 0, none⟩ = some (.int .i64 m)
theorem LibOk.below {w w' : World} (h : LibOk w) (hb : Below w.heap.size w w') : LibOk w' := by
  obtain ⟨m, hm⟩ := h.max
  have hl : 4 < w.heap.size := World.block_lt_of_cell? w _ hm
  exact ⟨(Lib.tabBelow_of_tabIs h.tab) w' hb, m, (hb.cell (p := ⟨4, 0, none⟩) hl).trans hm⟩

/-- The first k bytes folded. -/
def foldK (s : ByteArray) (k : Nat) : ByteArray := ⟨((s.data.toList.take k).map sub1).toArray⟩
def foldS (s : ByteArray) : ByteArray := ⟨(s.data.toList.map sub1).toArray⟩
theorem foldK_all (s : ByteArray) : foldK s s.size = foldS s := by
  unfold foldK foldS
  rw [List.take_of_length_le (by simp)]
theorem foldK_zero (s : ByteArray) : foldK s 0 = ByteArray.empty := rfl
theorem foldK_size (s : ByteArray) (k : Nat) (h : k ≤ s.size) : (foldK s k).size = k := by
  show (((s.data.toList.take k).map sub1).toArray).size = k
  simp
  omega
theorem foldK_succ (s : ByteArray) (k : Nat) (h : k < s.size) : foldK s (k + 1) = (foldK s k).push (sub1 (s.get! k)) := by
  have hl := get_at_data s k h
  have ht : s.data.toList.take (k + 1) = s.data.toList.take k ++ [s.get! k] := by
    rw [List.take_add_one, hl]; rfl
  unfold foldK
  rw [ht, List.map_append]
  simp [ByteArray.push]

/-- What Fold answers. -/
def foldAns (s : ByteArray) : Value := .tuple #[.string (if topicE s = 0 then foldS s else ByteArray.empty), .int .i64 (topicE s : Nat)]
theorem topic_short {s : ByteArray} (h : topicE s = 0) : s.size ≤ 64 := by
  unfold topicE at h
  split at h
  · cases h
  · split at h
    · cases h
    · omega

set_option maxRecDepth 100000 in
set_option maxHeartbeats 1000000 in
theorem fold_any (s : ByteArray) (w : World) (hm : s.size ≤ 140737488351232) (hl : LibOk w) : Calls Tryz.prog 85 #[.string s] w fun r w' => r = .returned (foldAns s) ∧ Below w.heap.size w w' := by
  have HL := Lib.hid hl
  have HT := Lib.hid (topic_any s w hm)
  clear hl
  by_cases he : topicE s = 0
  · have HE := Lib.hid he
    have hsz := topic_short he
    have hr := fun (W : World) (m : Int) (hW : W.cell? ⟨4, 0, none⟩ = some (.int .i64 m)) => Tryz.strings_ReplaceAll s ⟨#[46]⟩ ⟨#[95]⟩ m W (by omega) hW (by decide) (by
      have := Lib.countB_le ⟨#[46]⟩ (by decide) s.size s (Nat.le_refl _)
      have h1 : (⟨#[95]⟩ : ByteArray).size = 1 := rfl
      rw [h1]
      omega)
    have HR := Lib.hid hr
    have HA := Lib.hid (show foldAns s = .tuple #[.string (foldS s), .int .i64 0] by unfold foldAns; rw [if_pos he, he]; rfl)
    clear hr he
    go_enter Tryz.func85, Tryz.ntmps85
    go_wp2_with fail
    refine HT.out.mono ?_
    rintro r w1 ⟨rfl, h1⟩
    rw [HE.out]
    obtain ⟨m, hmx⟩ := (HL.out.below h1).max
    have HM := Lib.hid hmx
    have B1 := Lib.hid h1
    clear h1 hmx
    go_wp2_with fail
    refine (HR.out w1 m HM.out).mono ?_
    rintro r w2 ⟨rfl, h2⟩
    have B2 : Hid (Below w.heap.size w w2) := B1.out.trans (h2.mono B1.out.size)
    clear h2
    go_wp2_with fail
    go_ret2
    refine ⟨?_, B2.out⟩
    rw [HA.out]
    have e : Lib.replaceAll s.data.toList [46] [95] = s.data.toList.map sub1 := replaceAll_dot _
    show Ending.returned (.tuple #[.string ⟨(Lib.replaceAll s.data.toList [46] [95]).toArray⟩, .int .i64 0]) = _
    rw [e]
    rfl
  · have HE := Lib.hid he
    have hne : (((topicE s : Nat) : Int) != 0) = true := by rw [bne_iff_ne]; omega
    have HA := Lib.hid (show foldAns s = .tuple #[.string ByteArray.empty, .int .i64 (topicE s : Nat)] by unfold foldAns; rw [if_neg he])
    clear he
    go_enter Tryz.func85, Tryz.ntmps85
    go_wp2_with fail
    refine HT.out.mono ?_
    rintro r w1 ⟨rfl, h1⟩
    have B1 := Lib.hid h1
    clear h1
    go_wp2_with fail
    go_ret2
    exact ⟨by rw [HA.out]; rfl, B1.out⟩

set_option maxRecDepth 100000 in
set_option maxHeartbeats 1000000 in
theorem rfold_any (s : ByteArray) (w : World) (hm : s.size ≤ 140737488351232) : Calls Tryz.prog 101 #[.string s] w fun r w' => r = .returned (foldAns s) ∧ Below w.heap.size w w' := by
  have HT := Lib.hid (rtopic_any s w hm)
  by_cases he : topicE s = 0
  · have HE := Lib.hid he
    have hsz := topic_short he
    have HA := Lib.hid (show foldAns s = .tuple #[.string (foldS s), .int .i64 0] by unfold foldAns; rw [if_pos he, he]; rfl)
    clear he
    go_enter Tryz.func101, Tryz.ntmps101
    go_wp2_with fail
    refine HT.out.mono ?_
    rintro r w1 ⟨rfl, rfl⟩
    rw [HE.out]
    go_wp2_with fail
    go_loopw [5, 6] (fun v i wr => ∃ k : Nat, k ≤ s.size ∧ i = .int .i64 (k : Int) ∧ OB wr w.heap.size v (foldK s k) ∧ Below w.heap.size w wr) (fun _ i _ => s.size - (intOf i).toNat)
    case atStart => exact ⟨0, by omega, rfl, by rw [foldK_zero]; exact OB.nil w, (Below.refl _ _).alloc (Nat.le_refl _) _⟩
    case round =>
      obtain ⟨k, hk, rfl, hown, hb⟩ := hrel
      by_cases hp : k < s.size
      · have HF := Lib.hid (foldK_size s k hk)
        have HS := Lib.hid (foldK_succ s k hp)
        have hgb := get_bat s k hp
        have hge : s.get! k = s[k]'hp := by simp [ByteArray.get!, getElem!_pos, hp]; rfl
        by_cases h46 : bat s k = 46
        · have hq : (((s[k]'hp).toNat : Int) == 46) = true := by rw [hgb, h46]; rfl
          have hsub : sub1 (s.get! k) = 95 := by
            have : s.get! k = 46 := UInt8.toNat_inj.1 h46
            rw [this]; rfl
          have HSUB := Lib.hid hsub
          clear hgb hge hsub
          go_wp2_with (at_builtin; refine wpList_push rfl _ _ rfl _ _ _ _ _ 95 rfl rfl rfl hown hb.size (by rw [HF.out]; omega) ?_; intro v1 w1 hown1 hb1)
          go_roundw
          case rel => exact ⟨k + 1, by omega, by go_num, by rw [HS.out, HSUB.out]; exact hown1, hb.trans hb1⟩
          case measure => simp [intOf]; omega
        · have hq : (((s[k]'hp).toNat : Int) == 46) = false := by rw [hgb, beq_eq_false_iff_ne]; omega
          have hsub : sub1 (s.get! k) = s.get! k := by
            unfold sub1
            rw [if_neg (fun h => h46 (by unfold bat; rw [h]; rfl))]
          have HSUB := Lib.hid hsub
          have HGE := Lib.hid hge
          clear hgb hge hsub
          go_wp2_with (at_builtin; refine wpList_push rfl _ _ rfl _ _ _ _ _ (s.get! k) rfl rfl (by rw [HGE.out]; rfl) hown hb.size (by rw [HF.out]; omega) ?_; intro v1 w1 hown1 hb1)
          go_roundw
          case rel => exact ⟨k + 1, by omega, by go_num, by rw [HS.out, HSUB.out]; exact hown1, hb.trans hb1⟩
          case measure => simp [intOf]; omega
      · have hks : k = s.size := by omega
        subst hks
        rw [foldK_all] at hown
        obtain ⟨A, c, rfl, hrb⟩ := hown.form
        have hcv := run_string (P := Tryz.prog) hrb c 51 5 9 Tryz.underlying51 Tryz.underlying5 Tryz.underlying9
        have HB := Lib.hid hb
        clear hown hrb hb
        go_wp2_with fail
        go_ret2
        exact ⟨by rw [HA.out]; rfl, HB.out⟩
  · have HE := Lib.hid he
    have hne : (((topicE s : Nat) : Int) != 0) = true := by rw [bne_iff_ne]; omega
    have HA := Lib.hid (show foldAns s = .tuple #[.string ByteArray.empty, .int .i64 (topicE s : Nat)] by unfold foldAns; rw [if_neg he])
    clear he
    go_enter Tryz.func101, Tryz.ntmps101
    go_wp2_with fail
    refine HT.out.mono ?_
    rintro r w1 ⟨rfl, rfl⟩
    go_wp2_with fail
    go_ret2
    exact ⟨by rw [HA.out]; rfl, Below.refl _ _⟩
end Go.Proofs.YtciikcmiiebfpaaGreatDoor.Lb
end
