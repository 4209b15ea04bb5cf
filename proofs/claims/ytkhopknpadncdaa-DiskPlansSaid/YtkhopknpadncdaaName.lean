/- badName: which names are no file's. -/
import Derived.Test.YtkhopknpadncdaaRune
import Derived.Test.YtkhopknpadncdaaP
namespace Go.Proofs.Ytkhopknpadncdaa
open Go Go.RowKit Go.Maps Go.Proofs.YtkhopknpadncdaaW.PrintWords Go.Proofs.Ytkhopknpadncdaa.PDiskMemory Go.Proofs.YtkhopknpadncdaaW.PrintMore
set_option linter.unusedVariables false

def marksS : ByteArray := { data := #[46, 95, 45, 47] }
theorem dec_marks (pos : Nat) (h : pos < 4) : (Utf8.decode marksS pos).2 = 1 ∧ (Utf8.decode marksS pos).1 < 128 := by
  have : pos = 0 ∨ pos = 1 ∨ pos = 2 ∨ pos = 3 := by omega
  rcases this with rfl | rfl | rfl | rfl <;> decide

set_option maxRecDepth 1000000 in
set_option maxHeartbeats 2000000 in
theorem index_err (w : World) : Calls Try.prog 83 #[.string marksS, .int .i32 65533] w fun e w' => e = .returned (.int .i64 (-1)) ∧ Below w.heap.size w w' := by
  obtain ⟨s, hs⟩ : ∃ s, s = marksS := ⟨_, rfl⟩
  have hz : s.size = 4 := by rw [hs]; rfl
  rw [← hs]
  have HS := Lib.hid hs
  clear hs
  go_enter Try.func83, Try.ntmps83
  go_wp2
  go_loopg [] 4 (fun gf wx => ∃ pos : Nat, wx.heap[w.heap.size]? = some (.stringIter s pos) ∧ Below w.heap.size w wx ∧ pos ≤ 4 ∧ 4 ≤ pos + gf)
  case atStart => exact ⟨0, World.iter_heap w s 0, (Below.refl _ w).alloc (Nat.le_refl _) _, by omega, by omega⟩
  case round =>
    obtain ⟨pos, hit, hbw, hp4, hfu⟩ := hrel
    by_cases hps : pos < s.size
    · obtain ⟨g', rfl⟩ : ∃ g', gk = g' + 1 := ⟨gk - 1, by omega⟩
      have hnx : ∀ ty, (Instr.next (.pointer (some ⟨w.heap.size, 0, none⟩)) true ty).run Try.prog wr = _ := fun ty => Lib.run_next_any_at wr w.heap.size s pos ty hit hps
      obtain ⟨R, hR⟩ : ∃ R, (Utf8.decode s pos).1 = R := ⟨_, rfl⟩
      have hd := dec_marks pos (by omega)
      rw [← HS.out, hR] at hd
      rw [hR, hd.1] at hnx
      have hit2 := Lib.iterAt_heap wr w.heap.size s pos (pos + 1) hit
      have hbw2 := Lib.below_iterAt hbw (k := w.heap.size) (Nat.le_refl _) s (pos + 1)
      obtain ⟨W, hWd⟩ : ∃ W, wr.iterAt w.heap.size s (pos + 1) = W := ⟨_, rfl⟩
      rw [hWd] at hnx hit2 hbw2
      have hne : ((R : Int) == 65533) = false := by rw [beq_eq_false_iff_ne]; have := hd.2; omega
      have HX := Lib.hid hit2
      have HBW := Lib.hid hbw2
      clear hd hit hit2 hbw2 hWd
      go_wp2
      go_roundg g'
      case measure => omega
      case rel => exact ⟨pos + 1, HX.out, HBW.out, by omega, by omega⟩
    · have hnx : ∀ ty, (Instr.next (.pointer (some ⟨w.heap.size, 0, none⟩)) true ty).run Try.prog wr = _ := fun ty => Lib.run_next_end_at wr w.heap.size s pos ty hit hps
      go_wp2
      go_ret
      exact ⟨rfl, hbw⟩

set_option maxRecDepth 100000 in
theorem index_bad (r : Int) (w : World) (h0 : 128 ≤ r) (hv : Lib.validRune r = false) (hne : r ≠ 65533) :
    Calls Try.prog 83 #[.string { data := #[46, 95, 45, 47] }, .int .i32 r] w fun e w' => e = .returned (.int .i64 (-1)) ∧ Below w.heap.size w w' := by
  have a1 : decide (r < 128) = false := decide_eq_false (by omega)
  have a2 : ((r : Int) == 65533) = false := by rw [beq_eq_false_iff_ne]; exact hne
  have HV := Lib.hid hv
  clear hv hne
  go_enter Try.func83, Try.ntmps83
  go_wp2_with (go_at_call 97; refine (Try.utf8_ValidRune r w).mono ?_; rintro e w' ⟨rfl, rfl⟩; rw [HV.out])
  go_ret
  exact ⟨rfl, Below.refl _ _⟩

def isMark (r : Nat) : Bool := r == 46 || r == 95 || r == 45 || r == 47
theorem marks_ascii (r : Nat) (h : r < 128) : decide (0 ≤ Lib.indexByte [46, 95, 45, 47] ((r : Int).toNat.toUInt8)) = isMark r := by
  rw [Int.toNat_natCast]
  revert h
  revert r
  decide
theorem index_all (r : Nat) (w : World) (h0 : 128 ≤ r) (h1 : r ≤ 1114111) : Calls Try.prog 83 #[.string { data := #[46, 95, 45, 47] }, .int .i32 r] w fun e w' => e = .returned (.int .i64 (-1)) ∧ Below w.heap.size w w' := by
  by_cases he : r = 65533
  · subst he
    exact index_err w
  · cases hv : Lib.validRune (r : Int) with
    | true => exact index_far r w (by omega) (by omega) hv (by omega)
    | false => exact index_bad r w (by omega) hv (by omega)

set_option maxRecDepth 100000 in
theorem contains_any (r : Nat) (w : World) (h1 : r ≤ 1114111) : Calls Try.prog 79 #[.string { data := #[46, 95, 45, 47] }, .int .i32 r] w fun e w' => e = .returned (.bool (isMark r)) ∧ Below w.heap.size w w' := by
  by_cases h0 : r < 128
  · refine (Try.strings_ContainsRune_ascii { data := #[46, 95, 45, 47] } r w (by omega) (by omega)).mono ?_
    rintro e w' ⟨rfl, rfl⟩
    have := marks_ascii r h0
    exact ⟨by rw [← this], Below.refl _ _⟩
  · have hm : false = isMark r := by
      unfold isMark
      rw [eq_comm, Bool.or_eq_false_iff, Bool.or_eq_false_iff, Bool.or_eq_false_iff]
      refine ⟨⟨⟨?_, ?_⟩, ?_⟩, ?_⟩ <;> (rw [beq_eq_false_iff_ne]; omega)
    rw [← hm]
    clear hm
    have HI := Lib.hid (index_all r w (by omega) h1)
    go_enter Try.func79, Try.ntmps79
    go_wp2_with (go_at_call 83; refine HI.out.mono ?_; rintro e w' ⟨rfl, hb⟩)
    go_ret
    exact ⟨rfl, hb⟩

def isLetter (r : Nat) : Bool := decide (97 ≤ r ∧ r ≤ 122) || decide (65 ≤ r ∧ r ≤ 90) || decide (48 ≤ r ∧ r ≤ 57)
def badR (r : Nat) : Bool := !isLetter r && !isMark r
theorem badR_letter {r : Nat} (h : isLetter r = true) : badR r = false := by unfold badR; rw [h]; rfl
theorem badR_other {r : Nat} (h : isLetter r = false) : badR r = !isMark r := by unfold badR; rw [h]; rfl

set_option maxRecDepth 100000 in
theorem bad1_any (r : Nat) (w : World) (h1 : r ≤ 1114111) : Calls Try.prog 78 #[.int .i32 r] w fun e w' => e = .returned (.bool (badR r)) ∧ Below w.heap.size w w' := by
  have HC := Lib.hid (contains_any r w h1)
  obtain ⟨z, hz⟩ : ∃ z, z = badR r := ⟨_, rfl⟩
  rw [← hz]
  rcases (show r < 48 ∨ (48 ≤ r ∧ r ≤ 57) ∨ (58 ≤ r ∧ r ≤ 64) ∨ (65 ≤ r ∧ r ≤ 90) ∨ (91 ≤ r ∧ r ≤ 96) ∨ (97 ≤ r ∧ r ≤ 122) ∨ 123 ≤ r by omega) with h | h | h | h | h | h | h
  · have e97 : decide ((97 : Int) ≤ (r : Int)) = false := decide_eq_false (by omega)
    have e65 : decide ((65 : Int) ≤ (r : Int)) = false := decide_eq_false (by omega)
    have e48 : decide ((48 : Int) ≤ (r : Int)) = false := decide_eq_false (by omega)
    have e122 : decide ((r : Int) ≤ 122) = true := decide_eq_true (by omega)
    have e90 : decide ((r : Int) ≤ 90) = true := decide_eq_true (by omega)
    have e57 : decide ((r : Int) ≤ 57) = true := decide_eq_true (by omega)
    have hb : z = !isMark r := hz.trans (badR_other (by unfold isLetter; simp; omega))
    obtain ⟨q, hq⟩ : ∃ q, q = isMark r := ⟨_, rfl⟩
    rw [← hq] at hb HC
    subst hb
    clear hz h hq
    go_enter Try.func78, Try.ntmps78
    go_wp2_with (go_at_call 79; refine HC.out.mono ?_; rintro e w' ⟨rfl, hb⟩)
    go_ret
    exact ⟨rfl, hb⟩
  · have e97 : decide ((97 : Int) ≤ (r : Int)) = false := decide_eq_false (by omega)
    have e65 : decide ((65 : Int) ≤ (r : Int)) = false := decide_eq_false (by omega)
    have e48 : decide ((48 : Int) ≤ (r : Int)) = true := decide_eq_true (by omega)
    have e122 : decide ((r : Int) ≤ 122) = true := decide_eq_true (by omega)
    have e90 : decide ((r : Int) ≤ 90) = true := decide_eq_true (by omega)
    have e57 : decide ((r : Int) ≤ 57) = true := decide_eq_true (by omega)
    have hb : z = false := hz.trans (badR_letter (by unfold isLetter; simp; omega))
    subst hb
    clear hz h HC
    go_enter Try.func78, Try.ntmps78
    go_wp2
    go_ret
    exact ⟨rfl, Below.refl _ _⟩
  · have e97 : decide ((97 : Int) ≤ (r : Int)) = false := decide_eq_false (by omega)
    have e65 : decide ((65 : Int) ≤ (r : Int)) = false := decide_eq_false (by omega)
    have e48 : decide ((48 : Int) ≤ (r : Int)) = true := decide_eq_true (by omega)
    have e122 : decide ((r : Int) ≤ 122) = true := decide_eq_true (by omega)
    have e90 : decide ((r : Int) ≤ 90) = true := decide_eq_true (by omega)
    have e57 : decide ((r : Int) ≤ 57) = false := decide_eq_false (by omega)
    have hb : z = !isMark r := hz.trans (badR_other (by unfold isLetter; simp; omega))
    obtain ⟨q, hq⟩ : ∃ q, q = isMark r := ⟨_, rfl⟩
    rw [← hq] at hb HC
    subst hb
    clear hz h hq
    go_enter Try.func78, Try.ntmps78
    go_wp2_with (go_at_call 79; refine HC.out.mono ?_; rintro e w' ⟨rfl, hb⟩)
    go_ret
    exact ⟨rfl, hb⟩
  · have e97 : decide ((97 : Int) ≤ (r : Int)) = false := decide_eq_false (by omega)
    have e65 : decide ((65 : Int) ≤ (r : Int)) = true := decide_eq_true (by omega)
    have e48 : decide ((48 : Int) ≤ (r : Int)) = true := decide_eq_true (by omega)
    have e122 : decide ((r : Int) ≤ 122) = true := decide_eq_true (by omega)
    have e90 : decide ((r : Int) ≤ 90) = true := decide_eq_true (by omega)
    have e57 : decide ((r : Int) ≤ 57) = false := decide_eq_false (by omega)
    have hb : z = false := hz.trans (badR_letter (by unfold isLetter; simp; omega))
    subst hb
    clear hz h HC
    go_enter Try.func78, Try.ntmps78
    go_wp2
    go_ret
    exact ⟨rfl, Below.refl _ _⟩
  · have e97 : decide ((97 : Int) ≤ (r : Int)) = false := decide_eq_false (by omega)
    have e65 : decide ((65 : Int) ≤ (r : Int)) = true := decide_eq_true (by omega)
    have e48 : decide ((48 : Int) ≤ (r : Int)) = true := decide_eq_true (by omega)
    have e122 : decide ((r : Int) ≤ 122) = true := decide_eq_true (by omega)
    have e90 : decide ((r : Int) ≤ 90) = false := decide_eq_false (by omega)
    have e57 : decide ((r : Int) ≤ 57) = false := decide_eq_false (by omega)
    have hb : z = !isMark r := hz.trans (badR_other (by unfold isLetter; simp; omega))
    obtain ⟨q, hq⟩ : ∃ q, q = isMark r := ⟨_, rfl⟩
    rw [← hq] at hb HC
    subst hb
    clear hz h hq
    go_enter Try.func78, Try.ntmps78
    go_wp2_with (go_at_call 79; refine HC.out.mono ?_; rintro e w' ⟨rfl, hb⟩)
    go_ret
    exact ⟨rfl, hb⟩
  · have e97 : decide ((97 : Int) ≤ (r : Int)) = true := decide_eq_true (by omega)
    have e65 : decide ((65 : Int) ≤ (r : Int)) = true := decide_eq_true (by omega)
    have e48 : decide ((48 : Int) ≤ (r : Int)) = true := decide_eq_true (by omega)
    have e122 : decide ((r : Int) ≤ 122) = true := decide_eq_true (by omega)
    have e90 : decide ((r : Int) ≤ 90) = false := decide_eq_false (by omega)
    have e57 : decide ((r : Int) ≤ 57) = false := decide_eq_false (by omega)
    have hb : z = false := hz.trans (badR_letter (by unfold isLetter; simp; omega))
    subst hb
    clear hz h HC
    go_enter Try.func78, Try.ntmps78
    go_wp2
    go_ret
    exact ⟨rfl, Below.refl _ _⟩
  · have e97 : decide ((97 : Int) ≤ (r : Int)) = true := decide_eq_true (by omega)
    have e65 : decide ((65 : Int) ≤ (r : Int)) = true := decide_eq_true (by omega)
    have e48 : decide ((48 : Int) ≤ (r : Int)) = true := decide_eq_true (by omega)
    have e122 : decide ((r : Int) ≤ 122) = false := decide_eq_false (by omega)
    have e90 : decide ((r : Int) ≤ 90) = false := decide_eq_false (by omega)
    have e57 : decide ((r : Int) ≤ 57) = false := decide_eq_false (by omega)
    have hb : z = !isMark r := hz.trans (badR_other (by unfold isLetter; simp; omega))
    obtain ⟨q, hq⟩ : ∃ q, q = isMark r := ⟨_, rfl⟩
    rw [← hq] at hb HC
    subst hb
    clear hz h hq
    go_enter Try.func78, Try.ntmps78
    go_wp2_with (go_at_call 79; refine HC.out.mono ?_; rintro e w' ⟨rfl, hb⟩)
    go_ret
    exact ⟨rfl, hb⟩
end Go.Proofs.Ytkhopknpadncdaa
