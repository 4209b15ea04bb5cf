/- The walks of Piece, Cat and of LabelCuts. -/
import Derived.Test.YtjiblegnknhghaaCutsPlain
import Derived.Test.YtjiblegnknhghaaLawUtf
namespace Go.Proofs.Ytjiblegnknhghaa
open Go Go.RowKit

theorem piece_succ (s : ByteArray) (lo k : Nat) (h : k < s.size) (hl : lo ≤ k) : s.extract lo (k + 1) = (s.extract lo k).push (s.get! k) := by
  apply ByteArray.ext
  apply Array.toList_inj.1
  rw [show ((s.extract lo k).push (s.get! k)).data.toList = (s.extract lo k).data.toList ++ [s.get! k] by simp [ByteArray.push]]
  simp only [ByteArray.data_extract, Array.toList_extract, List.extract_eq_take_drop]
  have e : k + 1 - lo = (k - lo) + 1 := by omega
  have g := get_at_data s k h
  rw [e, List.take_add_one, List.getElem?_drop, show lo + (k - lo) = k by omega, g]
  rfl
theorem piece_nil (s : ByteArray) (lo : Nat) : s.extract lo lo = ByteArray.empty := by
  apply ByteArray.ext
  simp

set_option maxHeartbeats 400000 in
theorem piece_any (A : Option Addr) (c : Nat) (s : ByteArray) (lo hi : Nat) (w : World) (hs : RB w A s) (hm : s.size ≤ 140737488351232) (hl : lo ≤ hi) (hh : hi ≤ s.size) :
    Calls Try.prog 11 #[.slice A s.size c, .int .i64 (lo : Int), .int .i64 (hi : Int)] w fun e w' => ∃ v, e = .returned v ∧ OB w' w.heap.size v (s.extract lo hi) ∧ Below w.heap.size w w' := by
  have HS := Lib.hid hs
  clear hs
  go_enter Try.func11, Try.ntmps11
  go_wp2
  go_loopw [7, 8] (fun v i wr => ∃ k : Nat, lo ≤ k ∧ k ≤ hi ∧ i = .int .i64 (k : Int) ∧ OB wr w.heap.size v (s.extract lo k) ∧ Below w.heap.size w wr) (fun _ i _ => s.size - (intOf i).toNat)
  case atStart => exact ⟨lo, by omega, by omega, rfl, by rw [piece_nil]; exact OB.nil w, (Below.refl _ _).alloc (Nat.le_refl _) _⟩
  case round =>
    obtain ⟨k, hk0, hk, rfl, hown, hb⟩ := hrel
    by_cases hp : k < hi
    · have hp1 : decide (k < s.size) = true := by simp; omega
      have hp2 : decide (k < hi) = true := by simp; omega
      obtain ⟨a, rfl, hc⟩ := (RB.below HS.out hb).cell (show k < s.size by omega)
      have HF := Lib.hid (show (s.extract lo k).size ≤ s.size by simp; omega)
      go_wp2_with (at_builtin; refine wpList_push rfl _ _ rfl _ _ _ _ _ (s.get! k) rfl rfl rfl hown hb.size (by have := HF.out; omega) ?_; intro v1 w1 hown1 hb1)
      go_roundw
      case rel => exact ⟨k + 1, by omega, by omega, by go_num, by rw [piece_succ s lo k (by omega) hk0]; exact hown1, hb.trans hb1⟩
      case measure => simp [intOf]; omega
    · have : k = hi := by omega
      subst this
      have hp2 : decide (k < k) = false := by simp
      by_cases hp1 : k < s.size
      · have hp3 : decide (k < s.size) = true := by simp; omega
        go_wp2
        go_ret
        exact ⟨_, rfl, hown, hb⟩
      · have hp3 : decide (k < s.size) = false := by simp; omega
        go_wp2
        go_ret
        exact ⟨_, rfl, hown, hb⟩

theorem piece_at (A : Option Addr) (c n : Nat) (s : ByteArray) (lo hi : Nat) (lo' hi' : Int) (w : World) (hs : RB w A s) (hm : s.size ≤ 140737488351232) (hn : n = s.size) (e1 : lo' = lo) (e2 : hi' = hi) (hl : lo ≤ hi) (hh : hi ≤ s.size) :
    Calls Try.prog 11 #[.slice A n c, .int .i64 lo', .int .i64 hi'] w fun e w' => ∃ A1 c1 u, e = .returned (.slice A1 u.size c1) ∧ Hid (u = s.extract lo hi) ∧ Hid (RB w' A1 u) ∧ Below w.heap.size w w' := by
  subst hn e1 e2
  refine (piece_any A c s lo hi w hs hm hl hh).mono ?_
  rintro e w' ⟨v, rfl, hown, hb⟩
  obtain ⟨A1, c1, rfl, hr⟩ := hown.form
  exact ⟨A1, c1, _, rfl, rfl, hr, hb⟩

theorem cat_succ (s t : ByteArray) (k : Nat) (h : k < t.size) : s ++ front t (k + 1) = (s ++ front t k).push (t.get! k) := by
  rw [front_succ t k h]
  apply ByteArray.ext
  apply Array.toList_inj.1
  simp [ByteArray.push]

set_option maxHeartbeats 400000 in
theorem cat_any (A A' : Option Addr) (c c' : Nat) (s t : ByteArray) (w : World) (hs : RB w A s) (ht : RB w A' t) (hm : s.size + t.size ≤ 140737488351232) :
    Calls Try.prog 12 #[.slice A s.size c, .slice A' t.size c'] w fun e w' => ∃ v, e = .returned v ∧ OB w' w.heap.size v (s ++ t) ∧ Below w.heap.size w w' := by
  go_enter Try.func12, Try.ntmps12
  go_wp2_with fail
  refine (copy_any A c s w hs (by omega)).mono ?_
  rintro e w1 ⟨v, rfl, hown, hb⟩
  have HT := Lib.hid ht
  clear hs ht
  go_wp2_with fail
  go_loopw [5, 6] (fun v i wr => ∃ k : Nat, k ≤ t.size ∧ i = .int .i64 (k : Int) ∧ OB wr w.heap.size v (s ++ front t k) ∧ Below w.heap.size w wr) (fun _ i _ => t.size - (intOf i).toNat)
  case atStart => exact ⟨0, by omega, rfl, by rw [front_zero, ByteArray.append_empty]; exact hown, hb⟩
  case round =>
    obtain ⟨k, hk, rfl, hown, hb⟩ := hrel
    by_cases hp : k < t.size
    · obtain ⟨a, rfl, hc⟩ := (RB.below HT.out hb).cell hp
      have HF := Lib.hid (show (s ++ front t k).size = s.size + k by rw [ByteArray.size_append, front_size t k hk])
      go_wp2_with (at_builtin; refine wpList_push rfl _ _ rfl _ _ _ _ _ (t.get! k) rfl rfl rfl hown hb.size (by have := HF.out; omega) ?_; intro v1 w1 hown1 hb1)
      go_roundw
      case rel => exact ⟨k + 1, by omega, by go_num, by rw [cat_succ s t k hp]; exact hown1, hb.trans hb1⟩
      case measure => simp [intOf]; omega
    · go_wp2
      go_ret
      have : k = t.size := by omega
      subst this
      rw [front_all] at hown
      exact ⟨_, rfl, hown, hb⟩

theorem cat_at (A A' : Option Addr) (c c' : Nat) (s t : ByteArray) (w : World) (hs : RB w A s) (ht : RB w A' t) (hm : s.size + t.size ≤ 140737488351232) :
    Calls Try.prog 12 #[.slice A s.size c, .slice A' t.size c'] w fun e w' => ∃ A1 c1 u, e = .returned (.slice A1 u.size c1) ∧ Hid (u = s ++ t) ∧ Hid (RB w' A1 u) ∧ Below w.heap.size w w' := by
  refine (cat_any A A' c c' s t w hs ht hm).mono ?_
  rintro e w' ⟨v, rfl, hown, hb⟩
  obtain ⟨A1, c1, rfl, hr⟩ := hown.form
  exact ⟨A1, c1, _, rfl, rfl, hr, hb⟩

def lit1 : ByteArray := ⟨#[110, 195, 169]⟩
theorem rN_lit1 : rN lit1 = 2 := by decide +kernel
theorem rE_lit1 : rE lit1 = 0 := by decide +kernel
theorem runes_lit1 (w : World) : Calls Try.prog 8 #[.string { data := #[110, 195, 169] }] w fun e w' => e = .returned (.tuple #[.int .i64 2, .int .i64 0]) ∧ Below w.heap.size w w' := by
  refine (labelRunes_any lit1 w (by decide)).mono ?_
  rintro e w' ⟨he, hb⟩
  rw [rN_lit1, rE_lit1] at he
  exact ⟨he, hb⟩

/-- Utf of a slice of the call's own, the answer by name. -/
theorem utf_is (A : Option Addr) (c n : Nat) (s : ByteArray) (w : World) (hs : RB w A s) (hm : s.size ≤ 140737488351232) (hn : n = s.size) (p : Nat) (b : Bool) (h : utf s = (p, b)) :
    Calls Try.prog 5 #[.slice A n c] w fun e w' => e = .returned (.tuple #[.int .i64 (p : Int), .bool b]) ∧ Below w.heap.size w w' := by
  subst hn
  have := labelUtf_any A c s w hs hm
  rw [h] at this
  exact this

theorem runes_is (s : ByteArray) (w : World) (hm : s.size ≤ 140737488351232) (n e0 : Nat) (h : rN s = n) (k : rE s = e0) :
    Calls Try.prog 8 #[.string s] w fun e w' => e = .returned (.tuple #[.int .i64 (n : Int), .int .i64 (e0 : Int)]) ∧ Below w.heap.size w w' := by
  subst h k
  exact labelRunes_any s w hm

set_option maxRecDepth 100000 in
set_option maxHeartbeats 2000000 in
theorem lawCuts (A A' : Option Addr) (c c' : Nat) (s t : ByteArray) (w : World) (hs : RB w A s) (ht : RB w A' t) (hm : s.size + t.size ≤ 140737488351232) :
    Calls Try.prog 4 #[.slice A s.size c, .slice A' t.size c'] w (AnsB true w) := by
  have HS := Lib.hid hs
  have HT := Lib.hid ht
  clear hs ht
  obtain ⟨p, b, hu⟩ : ∃ p b, utf s = (p, b) := ⟨_, _, rfl⟩
  have hst := utf_stop s
  have hhd := utf_head s
  have htl := utf_tail s
  rw [hu] at hst hhd htl
  have hps : p ≤ s.size := by rcases hst with ⟨_, h⟩ | ⟨_, h, _⟩ <;> simp at h <;> omega
  have HU := Lib.hid hu
  have HHD := Lib.hid hhd
  have HTL := Lib.hid htl
  clear hu hhd htl
  have hp1 : decide (p < 0) = false := by simp
  have hp2 : decide (s.size < p) = false := by simp; omega
  cases b
  · have hlt : p < s.size := by rcases hst with ⟨h, _⟩ | ⟨_, h, _⟩ <;> simp_all
    have hp3 : ((p : Int) == (s.size : Int)) = false := by simp; omega
    clear hst
    go_enter Try.func4, Try.ntmps4
    go_wp2_with fail
    refine (runes_lit1 w).mono ?_
    rintro e w1 ⟨rfl, hb1⟩
    have HS1 := Lib.hid (HS.out.below hb1)
    have HT1 := Lib.hid (HT.out.below hb1)
    have HB1 := Lib.hid hb1
    clear hb1
    go_wp2_with fail
    refine (utf_is A c _ s w1 HS1.out (by omega) rfl p false HU.out).mono ?_
    rintro e w2 ⟨rfl, hb2⟩
    have HS2 := Lib.hid (HS1.out.below hb2)
    have HB2 := Lib.hid (HB1.out.trans (hb2.mono HB1.out.size))
    clear hb2
    go_wp2_with fail
    refine (piece_at A c _ s 0 p _ _ w2 HS2.out (by omega) rfl rfl rfl (by omega) hps).mono ?_
    rintro e w3 ⟨A3, c3, u3, rfl, HU3, HR3, hb3⟩
    have HS3 := Lib.hid (HS2.out.below hb3)
    have HB3 := Lib.hid (HB2.out.trans (hb3.mono HB2.out.size))
    clear hb3
    go_wp2_with fail
    refine (utf_is A3 c3 _ u3 w3 HR3.out (by rw [HU3.out]; simp; omega) rfl p true (by rw [HU3.out]; exact HHD.out)).mono ?_
    rintro e w4 ⟨rfl, hb4⟩
    have HS4 := Lib.hid (HS3.out.below hb4)
    have HB4 := Lib.hid (HB3.out.trans (hb4.mono HB3.out.size))
    clear hb4
    go_wp2_with fail
    refine (piece_at A c _ s p s.size _ _ w4 HS4.out (by omega) rfl rfl rfl hps (Nat.le_refl _)).mono ?_
    rintro e w5 ⟨A5, c5, u5, rfl, HU5, HR5, hb5⟩
    have HB5 := Lib.hid (HB4.out.trans (hb5.mono HB4.out.size))
    clear hb5
    go_wp2_with fail
    refine (utf_is A5 c5 _ u5 w5 HR5.out (by rw [HU5.out]; simp; omega) rfl 0 false (by rw [HU5.out]; first | exact HTL.out rfl | exact HTL.out trivial)).mono ?_
    rintro e w6 ⟨rfl, hb6⟩
    go_wp2_with fail
    go_ret
    exact ⟨rfl, HB5.out.trans (hb6.mono HB5.out.size)⟩
  · have hpe : p = s.size := by rcases hst with ⟨_, h⟩ | ⟨h, _⟩ <;> simp_all
    subst hpe
    clear hst
    have hp3 : ((s.size : Int) == (s.size : Int)) = true := by simp
    obtain ⟨q, b2, hu2⟩ : ∃ q b, utf t = (q, b) := ⟨_, _, rfl⟩
    have hqt : q ≤ t.size := by
      have := utfGo_le t t.size 0 (by omega)
      unfold utf at hu2
      rw [hu2] at this
      exact this
    have hs2 : (utf s).2 = true := by rw [HU.out]
    have HAP := Lib.hid (utf_append s t hs2)
    have HU2 := Lib.hid hu2
    have HRE := Lib.hid (show rE s = 0 by simp [rE, hs2])
    have HREA := Lib.hid (rE_append s t hs2)
    have hsz : (s ++ t).size = s.size + t.size := by simp
    have HSZ := Lib.hid hsz
    have hrl : rN s ≤ s.size := by
      unfold rN
      split <;> first | exact heads_le s _ | exact Nat.zero_le _
    have hrl2 : rN t ≤ t.size := by
      unfold rN
      split <;> first | exact heads_le t _ | exact Nat.zero_le _
    have HS2 := Lib.hid hs2
    have hrun : ∀ wx : World, (Op.stringOp .add s t).run Try.prog wx = .ok (.string (s ++ t)) wx := fun wx => run_string_add_sum wx s t (by omega)
    clear hu2 hs2 hsz
    go_enter Try.func4, Try.ntmps4
    go_wp2_with fail
    refine (runes_lit1 w).mono ?_
    rintro e w1 ⟨rfl, hb1⟩
    have HS1 := Lib.hid (HS.out.below hb1)
    have HT1 := Lib.hid (HT.out.below hb1)
    have HB1 := Lib.hid hb1
    clear hb1
    go_wp2_with fail
    refine (utf_is A c _ s w1 HS1.out (by omega) rfl s.size true HU.out).mono ?_
    rintro e w2 ⟨rfl, hb2⟩
    have HS2' := Lib.hid (HS1.out.below hb2)
    have HT2 := Lib.hid (HT1.out.below hb2)
    have HB2 := Lib.hid (HB1.out.trans (hb2.mono HB1.out.size))
    clear hb2
    go_wp2_with fail
    refine (piece_at A c _ s 0 s.size _ _ w2 HS2'.out (by omega) rfl rfl rfl (by omega) (Nat.le_refl _)).mono ?_
    rintro e w3 ⟨A3, c3, u3, rfl, HU3, HR3, hb3⟩
    have HS3 := Lib.hid (HS2'.out.below hb3)
    have HT3 := Lib.hid (HT2.out.below hb3)
    have HB3 := Lib.hid (HB2.out.trans (hb3.mono HB2.out.size))
    clear hb3
    go_wp2_with fail
    refine (utf_is A3 c3 _ u3 w3 HR3.out (by rw [HU3.out]; simp; omega) rfl s.size true (by rw [HU3.out]; exact HHD.out)).mono ?_
    rintro e w4 ⟨rfl, hb4⟩
    have HS4 := Lib.hid (HS3.out.below hb4)
    have HT4 := Lib.hid (HT3.out.below hb4)
    have HB4 := Lib.hid (HB3.out.trans (hb4.mono HB3.out.size))
    clear hb4
    go_wp2_with fail
    refine (utf_is A' c' _ t w4 HT4.out (by omega) rfl q b2 HU2.out).mono ?_
    rintro e w5 ⟨rfl, hb5⟩
    have HS5 := Lib.hid (HS4.out.below hb5)
    have HT5 := Lib.hid (HT4.out.below hb5)
    have HB5 := Lib.hid (HB4.out.trans (hb5.mono HB4.out.size))
    clear hb5
    go_wp2_with fail
    refine (cat_at A A' c c' s t w5 HS5.out HT5.out (by omega)).mono ?_
    rintro e w6 ⟨A6, c6, u6, rfl, HU6, HR6, hb6⟩
    have HS6 := Lib.hid (HS5.out.below hb6)
    have HT6 := Lib.hid (HT5.out.below hb6)
    have HB6 := Lib.hid (HB5.out.trans (hb6.mono HB5.out.size))
    clear hb6
    go_wp2_with fail
    refine (utf_is A6 c6 _ u6 w6 HR6.out (by rw [HU6.out, HSZ.out]; omega) rfl (s.size + q) b2 (by rw [HU6.out, HAP.out, HU2.out])).mono ?_
    rintro e w7 ⟨rfl, hb7⟩
    have HS7 := Lib.hid (HS6.out.below hb7)
    have HT7 := Lib.hid (HT6.out.below hb7)
    have HB7 := Lib.hid (HB6.out.trans (hb7.mono HB6.out.size))
    clear hb7
    have hcv := run_string (P := Try.prog) HS7.out c 22 5 9 Try.underlying22 Try.underlying5 Try.underlying9
    go_wp2_with fail
    refine (runes_is s w7 (by omega) (rN s) 0 rfl HRE.out).mono ?_
    rintro e w8 ⟨rfl, hb8⟩
    have HS8 := Lib.hid (HS7.out.below hb8)
    have HT8 := Lib.hid (HT7.out.below hb8)
    have HB8 := Lib.hid (HB7.out.trans (hb8.mono HB7.out.size))
    clear hb8 hcv
    have hcv := run_string (P := Try.prog) HT8.out c' 22 5 9 Try.underlying22 Try.underlying5 Try.underlying9
    cases b2
    · have HN2 := Lib.hid (show rN t = 0 by simp [rN, HU2.out])
      have HE2 := Lib.hid (show rE t = 6 by simp [rE, HU2.out])
      have HN3 := Lib.hid (rN_append_no s t HS2.out (by rw [HU2.out]))
      go_wp2_with fail
      refine (runes_is t w8 (by omega) 0 6 HN2.out HE2.out).mono ?_
      rintro e w9 ⟨rfl, hb9⟩
      have HB9 := Lib.hid (HB8.out.trans (hb9.mono HB8.out.size))
      have hcv1 := run_string (P := Try.prog) (HS8.out.below hb9) c 22 5 9 Try.underlying22 Try.underlying5 Try.underlying9
      have hcv2 := run_string (P := Try.prog) (HT8.out.below hb9) c' 22 5 9 Try.underlying22 Try.underlying5 Try.underlying9
      clear hb9 hcv
      go_wp2_with fail
      refine (runes_is (s ++ t) w9 (by rw [HSZ.out]; omega) 0 6 HN3.out (by rw [HREA.out, HE2.out])).mono ?_
      rintro e w10 ⟨rfl, hb10⟩
      go_wp2_with fail
      go_ret
      exact ⟨rfl, HB9.out.trans (hb10.mono HB9.out.size)⟩
    · have HE2 := Lib.hid (show rE t = 0 by simp [rE, HU2.out])
      have HN3 := Lib.hid (rN_append s t HS2.out (by rw [HU2.out]))
      go_wp2_with fail
      refine (runes_is t w8 (by omega) (rN t) 0 rfl HE2.out).mono ?_
      rintro e w9 ⟨rfl, hb9⟩
      have HB9 := Lib.hid (HB8.out.trans (hb9.mono HB8.out.size))
      have hcv1 := run_string (P := Try.prog) (HS8.out.below hb9) c 22 5 9 Try.underlying22 Try.underlying5 Try.underlying9
      have hcv2 := run_string (P := Try.prog) (HT8.out.below hb9) c' 22 5 9 Try.underlying22 Try.underlying5 Try.underlying9
      clear hb9 hcv
      go_wp2_with fail
      refine (runes_is (s ++ t) w9 (by rw [HSZ.out]; omega) (rN s + rN t) 0 HN3.out (by rw [HREA.out, HE2.out])).mono ?_
      rintro e w10 ⟨rfl, hb10⟩
      go_wp2_with fail
      go_ret
      refine ⟨?_, HB9.out.trans (hb10.mono HB9.out.size)⟩
      simp
end Go.Proofs.Ytjiblegnknhghaa
