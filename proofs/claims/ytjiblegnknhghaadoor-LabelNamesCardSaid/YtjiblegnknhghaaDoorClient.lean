/- Clients' names: the walks in both texts. -/
import Derived.Test.YtjiblegnknhghaaDoorClientP
namespace Go.Proofs.YtjiblegnknhghaaDoor
open Go Go.RowKit
set_option linter.unusedVariables false

section
variable (s : ByteArray) (w : World)
set_option maxRecDepth 100000 in
set_option maxHeartbeats 1000000 in
theorem client_any (hm : s.size ≤ 140737488351232) : Calls Tryd.prog 16 #[.string s] w fun r w' => r = .returned (.int .i64 (clientE s : Nat)) ∧ Below w.heap.size w w' := by
  have HR := Lib.hid (labelRunes_any s w hm)
  cases hu : (utf s).2
  · have HE := Lib.hid (show clientE s = 6 by unfold clientE; rw [if_pos hu])
    have HN := Lib.hid (show rN s = 0 by simp [rN, hu])
    have HX := Lib.hid (show rE s = 6 by simp [rE, hu])
    clear hu
    go_enter Tryd.func16, Tryd.ntmps16
    go_wp2_with fail
    refine HR.out.mono ?_
    rintro r w1 ⟨rfl, h1⟩
    rw [HN.out, HX.out]
    have B1 := Lib.hid h1
    clear h1
    go_wp2_with fail
    go_ret
    exact ⟨by rw [HE.out]; rfl, B1.out⟩
  · have HU := Lib.hid hu
    have HN := Lib.hid (show rN s = heads s s.size by simp [rN, hu])
    have HX := Lib.hid (show rE s = 0 by simp [rE, hu])
    have hle := heads_le s s.size
    by_cases hh : 32 < heads s s.size
    · have HE := Lib.hid (show clientE s = 4 by unfold clientE; rw [if_neg (by rw [hu]; decide), if_pos hh])
      clear hu
      go_enter Tryd.func16, Tryd.ntmps16
      go_wp2_with fail
      refine HR.out.mono ?_
      rintro r w1 ⟨rfl, h1⟩
      rw [HN.out, HX.out]
      have B1 := Lib.hid h1
      clear h1
      go_wp2_with fail
      go_ret
      exact ⟨by rw [HE.out]; rfl, B1.out⟩
    · have HE := Lib.hid (show clientE s = if badB s = true then 41 else 0 by unfold clientE; rw [if_neg (by rw [hu]; decide), if_neg hh])
      clear hu
      go_enter Tryd.func16, Tryd.ntmps16
      go_wp2_with fail
      refine HR.out.mono ?_
      rintro r w1 ⟨rfl, h1⟩
      rw [HN.out, HX.out]
      have B1 := Lib.hid h1
      clear h1
      go_wp2_with fail
      go_loopw [6] (fun _ w' => ∃ pos k : Nat, w' = w1.iter s pos ∧ pos ≤ s.size ∧ utfGo s k pos = utf s ∧ s.size ≤ pos + k ∧ okTo s pos) (fun _ w' => s.size - w'.iterPos w1.heap.size)
      case atStart => exact ⟨0, s.size, rfl, Nat.zero_le _, rfl, by omega, fun j hj => absurd hj (by omega)⟩
      case round =>
        obtain ⟨pos, k, rfl, hpos, hgo, hk, hok⟩ := hrel
        have HG := Lib.hid hgo
        have OK := Lib.hid hok
        have HB := Lib.hid (fun p : Nat => (B1.out.alloc B1.out.size (.stringIter s p)))
        clear hok hgo
        by_cases hp : pos < s.size
        · have hnx : ∀ ty, (Instr.next (.pointer (some ⟨w1.heap.size, 0, none⟩)) true ty).run Tryd.prog (w1.iter s pos) = _ := fun ty => run_next_any w1 s pos ty hp
          obtain ⟨k, rfl⟩ : ∃ m, k = m + 1 := ⟨k - 1, by omega⟩
          have hz : 0 < chr s pos := by
            rcases Nat.eq_zero_or_pos (chr s pos) with h | h
            · have h1 := HG.out
              have h2 := HU.out
              rw [← h1] at h2
              simp [utfGo, hp, h] at h2
            · exact h
          have HD := Lib.hid ((decode_chr s pos).2 hz).2
          have HL := Lib.hid (chr_le s pos hp).2
          have HZ := Lib.hid hz
          clear hz
          by_cases hv : ctlN (Utf8.decode s pos).1
          · have HBAD := Lib.hid (badB_true hp (ctl_yes s pos HZ.out hv))
            rcases hv with hv | ⟨hv1, hv2⟩
            all_goals
              go_wp2_with fail
              go_ret
              exact ⟨by rw [HE.out, HBAD.out]; rfl, HB.out _⟩
          · have HNO := Lib.hid (ctl_no s pos HZ.out hv OK.out)
            have hv1 : ¬ (Utf8.decode s pos).1 < 32 := fun h => hv (.inl h)
            by_cases hv2 : 127 ≤ (Utf8.decode s pos).1
            · have hv3 : ¬ (Utf8.decode s pos).1 ≤ 159 := fun h => hv (.inr ⟨hv2, h⟩)
              clear hv
              go_wp2_with fail
              go_roundw
              case rel =>
                refine ⟨pos + chr s pos, k, by rw [HD.out], HL.out, ?_, by have := HZ.out; omega, HNO.out⟩
                rw [← HG.out]
                simp only [utfGo]
                rw [if_pos hp, if_neg (by have := HZ.out; omega)]
              case measure =>
                have := HD.out
                have := HL.out
                have := HZ.out
                rw [World.iterPos_iter, World.iterPos_iter]
                omega
            · clear hv
              go_wp2_with fail
              go_roundw
              case rel =>
                refine ⟨pos + chr s pos, k, by rw [HD.out], HL.out, ?_, by have := HZ.out; omega, HNO.out⟩
                rw [← HG.out]
                simp only [utfGo]
                rw [if_pos hp, if_neg (by have := HZ.out; omega)]
              case measure =>
                have := HD.out
                have := HL.out
                have := HZ.out
                rw [World.iterPos_iter, World.iterPos_iter]
                omega
        · have hnx : ∀ ty, (Instr.next (.pointer (some ⟨w1.heap.size, 0, none⟩)) true ty).run Tryd.prog (w1.iter s pos) = _ := fun ty => run_next_end w1 s pos ty hp
          have hps : pos = s.size := by omega
          subst hps
          go_wp2_with fail
          go_ret
          exact ⟨by rw [HE.out, badB_false OK.out]; rfl, HB.out _⟩

theorem bad_false {i : Nat} (h : badAt s i = false) : ¬ bat s i < 32 ∧ bat s i ≠ 127 ∧ (bat s i = 194 → i + 1 < s.size → 159 < bat s (i + 1)) := by
  unfold badAt at h
  rw [decide_eq_false_iff_not] at h
  omega
theorem bad_true {i : Nat} (h : badAt s i = true) : bat s i < 32 ∨ bat s i = 127 ∨ (bat s i = 194 ∧ i + 1 < s.size ∧ bat s (i + 1) ≤ 159) := by
  unfold badAt at h
  exact of_decide_eq_true h

set_option maxRecDepth 100000 in
set_option maxHeartbeats 1000000 in
theorem rclient_any (hm : s.size ≤ 140737488351232) : Calls Tryd.prog 17 #[.string s] w fun r w' => r = .returned (.int .i64 (clientE s : Nat)) ∧ Below w.heap.size w w' := by
  have HR := Lib.hid (refRunes_any s w hm)
  cases hu : (utf s).2
  · have HE := Lib.hid (show clientE s = 6 by unfold clientE; rw [if_pos hu])
    have HN := Lib.hid (show rN s = 0 by simp [rN, hu])
    have HX := Lib.hid (show rE s = 6 by simp [rE, hu])
    clear hu
    go_enter Tryd.func17, Tryd.ntmps17
    go_wp2_with fail
    refine HR.out.mono ?_
    rintro r w1 ⟨rfl, h1⟩
    rw [HN.out, HX.out]
    have B1 := Lib.hid h1
    clear h1
    go_wp2_with fail
    go_ret
    exact ⟨by rw [HE.out]; rfl, B1.out⟩
  · have HN := Lib.hid (show rN s = heads s s.size by simp [rN, hu])
    have HX := Lib.hid (show rE s = 0 by simp [rE, hu])
    have hle := heads_le s s.size
    by_cases hh : 32 < heads s s.size
    · have HE := Lib.hid (show clientE s = 4 by unfold clientE; rw [if_neg (by rw [hu]; decide), if_pos hh])
      clear hu
      go_enter Tryd.func17, Tryd.ntmps17
      go_wp2_with fail
      refine HR.out.mono ?_
      rintro r w1 ⟨rfl, h1⟩
      rw [HN.out, HX.out]
      have B1 := Lib.hid h1
      clear h1
      go_wp2_with fail
      go_ret
      exact ⟨by rw [HE.out]; rfl, B1.out⟩
    · have HE := Lib.hid (show clientE s = if badB s = true then 41 else 0 by unfold clientE; rw [if_neg (by rw [hu]; decide), if_neg hh])
      clear hu
      go_enter Tryd.func17, Tryd.ntmps17
      go_wp2_with fail
      refine HR.out.mono ?_
      rintro r w1 ⟨rfl, h1⟩
      rw [HN.out, HX.out]
      have B1 := Lib.hid h1
      clear h1
      go_wp2_with fail
      go_loop [5] (fun i => ∃ k : Nat, i = .int .i64 (k : Int) ∧ k ≤ s.size ∧ okTo s k) (fun i => s.size - (intOf i).toNat)
      case atStart => exact ⟨0, rfl, Nat.zero_le _, fun j hj => absurd hj (by omega)⟩
      case round =>
        obtain ⟨k, rfl, hk, hok⟩ := hrel
        have OK := Lib.hid hok
        clear hok
        by_cases hp : k < s.size
        · have hgb := get_bat s k hp
          cases hb : badAt s k
          · have HOK : Hid (okTo s (k + 1)) := fun j hj => by
              rcases Nat.lt_or_ge j k with h | h
              · exact OK.out j h
              · obtain rfl : j = k := by omega
                exact hb
            obtain ⟨b1, b2, b3⟩ := bad_false s hb
            clear hb
            have q1 : ¬ (s[k]'hp).toNat < 32 := by omega
            have q2 : (s[k]'hp).toNat ≠ 127 := by omega
            by_cases q3 : (s[k]'hp).toNat = 194
            · by_cases q4 : k + 1 < s.size
              · have hgc := get_bat s (k + 1) q4
                have q5 : ¬ (s[k + 1]'q4).toNat ≤ 159 := by
                  have := b3 (by omega) q4
                  omega
                clear b1 b2 b3 hgb hgc
                go_wp2_with fail
                go_round
                case rel => exact ⟨k + 1, by go_num, by omega, HOK.out⟩
                case measure => simp [intOf]; omega
              · clear b1 b2 b3 hgb
                go_wp2_with fail
                go_round
                case rel => exact ⟨k + 1, by go_num, by omega, HOK.out⟩
                case measure => simp [intOf]; omega
            · have q7 : (((s[k]'hp).toNat : Int) == 194) = false := by rw [beq_eq_false_iff_ne]; omega
              have q8 : (((s[k]'hp).toNat : Int) == 127) = false := by rw [beq_eq_false_iff_ne]; omega
              clear b1 b2 b3 hgb q3 q2
              go_wp2_with fail
              go_round
              case rel => exact ⟨k + 1, by go_num, by omega, HOK.out⟩
              case measure => simp [intOf]; omega
          · have HBAD := Lib.hid (badB_true hp hb)
            by_cases q1 : (s[k]'hp).toNat < 32
            · clear hb hgb
              go_wp2_with fail
              go_ret
              exact ⟨by rw [HE.out, HBAD.out]; rfl, B1.out⟩
            by_cases q2 : (s[k]'hp).toNat = 127
            · clear hb hgb
              go_wp2_with fail
              go_ret
              exact ⟨by rw [HE.out, HBAD.out]; rfl, B1.out⟩
            · have q3 : (s[k]'hp).toNat = 194 ∧ k + 1 < s.size ∧ bat s (k + 1) ≤ 159 := by
                have := bad_true s hb
                omega
              obtain ⟨q3, q4, q5⟩ := q3
              have q6 : (s[k + 1]'q4).toNat ≤ 159 := by rw [get_bat]; exact q5
              clear hb hgb q5
              go_wp2_with fail
              go_ret
              exact ⟨by rw [HE.out, HBAD.out]; rfl, B1.out⟩
        · have hps : k = s.size := by omega
          subst hps
          go_wp2_with fail
          go_ret
          exact ⟨by rw [HE.out, badB_false OK.out]; rfl, B1.out⟩
end
end Go.Proofs.YtjiblegnknhghaaDoor
