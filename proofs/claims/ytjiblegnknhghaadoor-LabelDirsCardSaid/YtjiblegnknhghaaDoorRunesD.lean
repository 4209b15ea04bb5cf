/- The number of characters: plain facts, and the walks of Runes in both texts. -/
import Derived.Test.YtjiblegnknhghaaDoorRefD
namespace Go.Proofs.YtjiblegnknhghaaDoor
open Go Go.RowKit

def headB (b : Nat) : Bool := decide (b < 128) || decide (191 < b)
/-- How many of the first k bytes begin a character. -/
def heads (s : ByteArray) : Nat → Nat
  | 0 => 0
  | k + 1 => heads s k + (if headB (bat s k) = true then 1 else 0)
theorem heads_le (s : ByteArray) : ∀ k, heads s k ≤ k
  | 0 => Nat.le_refl _
  | k + 1 => by
    have := heads_le s k
    unfold heads
    split <;> omega

theorem chrN_head (a b c d : Nat) (x y z : Bool) (h : 0 < chrN a b c d x y z) : headB a = true ∧ (2 ≤ chrN a b c d x y z → headB b = false) ∧ (3 ≤ chrN a b c d x y z → headB c = false) ∧ (4 ≤ chrN a b c d x y z → headB d = false) := by
  have hl := lo_facts a
  have hh := hi_facts a
  by_cases h1 : a < 128
  · rw [chr_one _ _ _ _ _ _ _ h1]
    exact ⟨by simp [headB, h1], fun h => by omega, fun h => by omega, fun h => by omega⟩
  by_cases h2 : a < 194 ∨ 244 < a
  · rw [chr_no _ _ _ _ _ _ _ (by omega) h2] at h
    omega
  rw [chr_more _ _ _ _ _ _ _ (by omega) (by omega)] at h ⊢
  have ha : headB a = true := by simp [headB]; omega
  cases hx : win x b (loOf a) (hiOf a) with
  | false => rw [hx] at h; simp at h
  | true =>
    have hb : headB b = false := by
      simp [win] at hx
      simp [headB]
      omega
    simp only [hx, Bool.true_eq_false, if_false] at h ⊢
    by_cases h3 : a < 224
    · rw [if_pos h3]
      exact ⟨ha, fun _ => hb, fun h => by omega, fun h => by omega⟩
    rw [if_neg h3] at h ⊢
    cases hy : win y c 128 191 with
    | false => rw [hy] at h; simp at h
    | true =>
      have hc : headB c = false := by
        simp [win] at hy
        simp [headB]
        omega
      simp only [hy, Bool.true_eq_false, if_false] at h ⊢
      by_cases h4 : a < 240
      · rw [if_pos h4]
        exact ⟨ha, fun _ => hb, fun _ => hc, fun h => by omega⟩
      rw [if_neg h4] at h ⊢
      cases hz : win z d 128 191 with
      | false => rw [hz] at h; simp at h
      | true =>
        have hd : headB d = false := by
          simp [win] at hz
          simp [headB]
          omega
        exact ⟨ha, fun _ => hb, fun _ => hc, fun _ => hd⟩

theorem heads_chr (s : ByteArray) (i : Nat) (h : 0 < chr s i) : heads s (i + chr s i) = heads s i + 1 := by
  have h4 : chr s i ≤ 4 := (chrN_le _ _ _ _ _ _ _).1
  obtain ⟨h0, h1, h2, h3⟩ := chrN_head _ _ _ _ _ _ _ h
  have e0 : heads s (i + 1) = heads s i + 1 := by rw [heads, if_pos h0]
  have e1 : 2 ≤ chr s i → heads s (i + 2) = heads s (i + 1) := fun hh => by rw [heads, h1 hh]; rfl
  have e2 : 3 ≤ chr s i → heads s (i + 3) = heads s (i + 2) := fun hh => by rw [heads, h2 hh]; rfl
  have e3 : 4 ≤ chr s i → heads s (i + 4) = heads s (i + 3) := fun hh => by rw [heads, h3 hh]; rfl
  have hc : chr s i = 1 ∨ chr s i = 2 ∨ chr s i = 3 ∨ chr s i = 4 := by omega
  rcases hc with hc | hc | hc | hc <;> rw [hc] at e1 e2 e3 ⊢
  · exact e0
  · rw [e1 (by omega), e0]
  · rw [e2 (by omega), e1 (by omega), e0]
  · rw [e3 (by omega), e2 (by omega), e1 (by omega), e0]

/-- '[]byte(s)'. -/
theorem run_bytes (s : ByteArray) (w : World) : ∃ w1 a1 c1, (convert 9 49 (.string s)).run Tryd.prog w = .ok (.slice (some a1) s.size c1) w1 ∧ RB w1 (some a1) s ∧ Below w.heap.size w w1 := by
  refine ⟨_, _, _, Lib.run_convert_string_bytes (P := Tryd.prog) w 9 49 5 s Tryd.underlying9 Tryd.underlying49 Tryd.underlying5, ?_, ?_⟩
  · refine ⟨by rw [bvs_length]; omega, fun _ => ⟨_, rfl, by rw [Lib.bytesWorld_size]; show w.heap.size < _; omega, fun j u hu => ?_⟩⟩
    have hj : j < s.size := by
      rcases Nat.lt_or_ge j s.size with h | h
      · exact h
      · rw [List.getElem?_eq_none (by rw [bvs_length]; exact h)] at hu
        cases hu
    have e : (⟨w.heap.size, 0, none⟩ : Addr).add j = ⟨w.heap.size, j, none⟩ := by unfold Addr.add; split <;> simp_all
    rw [e, Lib.bytesWorld_cell w _ s j hj]
    rw [bvs_get s j hj] at hu
    injection hu with hu
    rw [← hu]
    unfold bv
    rw [List.getD, get_at_data s j hj]
    rfl
  · exact ⟨rfl, rfl, rfl, by rw [Lib.bytesWorld_size]; omega, fun k hk => Lib.bytesWorld_at_old w _ s k hk⟩

/-- What Runes answers: the number, the error's number. -/
def rN (s : ByteArray) : Nat := if (utf s).2 = true then heads s s.size else 0
def rE (s : ByteArray) : Nat := if (utf s).2 = true then 0 else 6
def RunesAns (s : ByteArray) (w : World) (e : Ending) (w' : World) : Prop :=
  e = .returned (.tuple #[.int .i64 (rN s : Int), .int .i64 (rE s : Int)]) ∧ Below w.heap.size w w'

theorem runes_no (s : ByteArray) (w w' : World) (h : (utf s).2 = false) (hb : Below w.heap.size w w') : RunesAns s w (.returned (.tuple #[.int .i64 0, .int .i64 6])) w' := by
  refine ⟨?_, hb⟩
  simp [rN, rE, h]
theorem runes_yes (s : ByteArray) (w w' : World) (n : Nat) (h : (utf s).2 = true) (hn : n = heads s s.size) (hb : Below w.heap.size w w') : RunesAns s w (.returned (.tuple #[.int .i64 (n : Int), .int .i64 0])) w' := by
  refine ⟨?_, hb⟩
  simp [rN, rE, h, hn]

set_option maxRecDepth 100000 in
set_option maxHeartbeats 400000 in
theorem labelRunes_any (s : ByteArray) (w : World) (hm : s.size ≤ 140737488351232) :
    Calls Tryd.prog 29 #[.string s] w (RunesAns s w) := by
  obtain ⟨w1, a1, c1, hcv, hr, hb1⟩ := run_bytes s w
  have HB1 := Lib.hid hb1
  have HR := Lib.hid hr
  clear hb1 hr
  go_enter Tryd.func29, Tryd.ntmps29
  go_wp2_with fail
  refine (labelUtf_any _ _ _ _ HR.out hm).mono ?_
  rintro e w2 ⟨rfl, hb2⟩
  have HB2 := Lib.hid (HB1.out.trans (hb2.mono HB1.out.size))
  clear hb2
  cases hu : (utf s).2
  · have HU := Lib.hid hu
    clear hu
    go_wp2_with fail
    go_ret2
    exact runes_no s w w2 HU.out HB2.out
  · have HU := Lib.hid hu
    clear hu
    go_wp2_with fail
    go_loopw [6] (fun v w' => ∃ (pos k : Nat), w' = w2.iter s pos ∧ v = .int .i64 (heads s pos : Int) ∧ pos ≤ s.size ∧ utfGo s k pos = utf s ∧ s.size ≤ pos + k) (fun _ w' => s.size - w'.iterPos w2.heap.size)
    case atStart => exact ⟨0, s.size, rfl, rfl, by omega, rfl, by omega⟩
    case round =>
      obtain ⟨pos, k, rfl, rfl, hpos, hgo, hk⟩ := hrel
      have HG := Lib.hid hgo
      clear hgo
      by_cases hp : pos < s.size
      · have hnx : ∀ ty, (Instr.next (.pointer (some ⟨w2.heap.size, 0, none⟩)) true ty).run Tryd.prog (w2.iter s pos) = _ := fun ty => run_next_any w2 s pos ty hp
        obtain ⟨k, rfl⟩ : ∃ m, k = m + 1 := ⟨k - 1, by omega⟩
        have hz : 0 < chr s pos := by
          rcases Nat.eq_zero_or_pos (chr s pos) with h | h
          · have h1 := HG.out
            have h2 := HU.out
            rw [← h1] at h2
            simp [utfGo, hp, h] at h2
          · exact h
        have HD := Lib.hid ((decode_chr s pos).2 hz).2
        have HL := Lib.hid (chr_le s pos hp).2
        have HH := Lib.hid (heads_chr s pos hz)
        have hh := heads_le s pos
        go_wp2_with fail
        go_roundw
        case rel =>
          refine ⟨pos + chr s pos, k, by rw [HD.out], by rw [HH.out]; go_num, HL.out, ?_, by omega⟩
          rw [← HG.out]
          simp only [utfGo]
          rw [if_pos hp, if_neg (by omega)]
        case measure =>
          have := HD.out
          have := HL.out
          rw [World.iterPos_iter, World.iterPos_iter]
          omega
      · have hnx : ∀ ty, (Instr.next (.pointer (some ⟨w2.heap.size, 0, none⟩)) true ty).run Tryd.prog (w2.iter s pos) = _ := fun ty => run_next_end w2 s pos ty hp
        go_wp2_with fail
        go_ret2
        have : pos = s.size := by omega
        exact runes_yes s w _ _ HU.out (by rw [this]) (HB2.out.alloc HB2.out.size _)

set_option maxRecDepth 100000 in
set_option maxHeartbeats 400000 in
theorem refRunes_any (s : ByteArray) (w : World) (hm : s.size ≤ 140737488351232) :
    Calls Tryd.prog 30 #[.string s] w (RunesAns s w) := by
  obtain ⟨w1, a1, c1, hcv, hr, hb1⟩ := run_bytes s w
  have HB1 := Lib.hid hb1
  have HR := Lib.hid hr
  clear hb1 hr
  go_enter Tryd.func30, Tryd.ntmps30
  go_wp2_with fail
  refine (refUtf_any _ _ _ _ HR.out hm).mono ?_
  rintro e w2 ⟨rfl, rfl⟩
  cases hu : (utf s).2
  · have HU := Lib.hid hu
    clear hu
    go_wp2_with fail
    go_ret2
    exact runes_no s w _ HU.out HB1.out
  · have HU := Lib.hid hu
    clear hu
    go_wp2_with fail
    go_loop [7, 8] (fun v i => ∃ (k : Nat), i = .int .i64 (k : Int) ∧ v = .int .i64 (heads s k : Int) ∧ k ≤ s.size) (fun _ i => s.size - (intOf i).toNat)
    case atStart => exact ⟨0, rfl, rfl, by omega⟩
    case round =>
      obtain ⟨k, rfl, rfl, hk⟩ := hrel
      have hh := heads_le s k
      by_cases hp : k < s.size
      · obtain ⟨a, ha, hc⟩ := HR.out.bat hp
        injection ha with ha
        subst ha
        by_cases h1 : bat s k < 128
        · have HH : Hid (heads s (k + 1) = heads s k + 1) := by
            show _ = _
            simp [heads, headB, h1]
          go_wp2_with fail
          go_round
          case rel => exact ⟨k + 1, by go_num, by rw [HH.out]; go_num, by omega⟩
          case measure => simp [intOf]; omega
        by_cases h2 : 191 < bat s k
        · have HH : Hid (heads s (k + 1) = heads s k + 1) := by
            show _ = _
            simp [heads, headB, h2]
          go_wp2_with fail
          go_round
          case rel => exact ⟨k + 1, by go_num, by rw [HH.out]; go_num, by omega⟩
          case measure => simp [intOf]; omega
        · have HH : Hid (heads s (k + 1) = heads s k) := by
            show _ = _
            simp [heads, headB, h1, h2]
          go_wp2_with fail
          go_round
          case rel => exact ⟨k + 1, by go_num, by rw [HH.out], by omega⟩
          case measure => simp [intOf]; omega
      · go_wp2_with fail
        go_ret2
        have : k = s.size := by omega
        exact runes_yes s w _ _ HU.out (by rw [this]) HB1.out
end Go.Proofs.YtjiblegnknhghaaDoor
