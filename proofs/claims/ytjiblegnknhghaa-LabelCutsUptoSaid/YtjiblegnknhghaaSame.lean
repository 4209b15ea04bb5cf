/- The walks of Same, Wide, Intact; the number of characters. -/
import Derived.Test.YtjiblegnknhghaaRef
namespace Go.Proofs.Ytjiblegnknhghaa
open Go Go.RowKit

theorem below_drewN {B : Nat} {a w : World} (h : Below B a w) (n : Nat) : Below B a (w.drewN n) := ⟨h.os, h.tape, h.output, h.size, h.block⟩

theorem bytes_ext (s t : ByteArray) (h : s.size = t.size) (k : ∀ i, i < s.size → s.get! i = t.get! i) : s = t := by
  apply ByteArray.ext
  apply Array.ext
  · exact h
  · intro i h1 h2
    have := k i h1
    have g1 := get_at_data s i h1
    have g2 := get_at_data t i h2
    rw [Array.getElem?_toList, Array.getElem?_eq_getElem h1] at g1
    rw [Array.getElem?_toList, Array.getElem?_eq_getElem h2] at g2
    injection g1 with g1
    injection g2 with g2
    rw [g1, g2, this]

def AnsB (b : Bool) (w : World) (e : Ending) (w' : World) : Prop := e = .returned (.bool b) ∧ Below w.heap.size w w'

set_option maxHeartbeats 400000 in
theorem same_any (A A' : Option Addr) (c c' : Nat) (s t : ByteArray) (w : World) (hs : RB w A s) (ht : RB w A' t) (hm : s.size ≤ 9223372036854775807) :
    Calls Try.prog 16 #[.slice A s.size c, .slice A' t.size c'] w (AnsB (decide (s = t)) w) := by
  by_cases hl : s.size = t.size
  · have h1 : ((s.size : Int) != (t.size : Int)) = false := by simp; omega
    have HS := Lib.hid hs
    have HT := Lib.hid ht
    have HL := Lib.hid hl
    clear hs ht hl
    go_enter Try.func16, Try.ntmps16
    go_wp2
    go_loopw [5] (fun i wr => ∃ k m : Nat, k ≤ s.size ∧ i = .int .i64 (k : Int) ∧ wr = w.drewN m ∧ (∀ j, j < k → s.get! j = t.get! j)) (fun i _ => s.size - (intOf i).toNat)
    case atStart => exact ⟨0, 0, by omega, rfl, rfl, fun j hj => by omega⟩
    case round =>
      obtain ⟨k, m, hk, rfl, rfl, hj⟩ := hrel
      have HJ := Lib.hid hj
      clear hj
      have HB := Lib.hid (fun m => below_drewN (Below.refl w.heap.size w) m)
      by_cases hp : k < s.size
      · obtain ⟨a, rfl, hc⟩ := RB.cell HS.out hp
        have hp2 : k < t.size := by have := HL.out; omega
        obtain ⟨a', rfl, hc'⟩ := RB.cell HT.out hp2
        have hi1 : (0 : Int) ≤ (k : Int) := by omega
        have hi2 : (k : Int) < (s.size : Int) := by omega
        have hi3 : (k : Int) < (t.size : Int) := by omega
        by_cases hq : s.get! k = t.get! k
        · have hqb : (((s.get! k).toNat : Int) != ((t.get! k).toNat : Int)) = false := by simp [hq]
          have HQ := Lib.hid hq
          clear hq
          go_wp2_with fail
          go_quiet (fail)
          go_wp2_with fail
          go_roundw
          case rel =>
            refine ⟨k + 1, _, by omega, by go_num, rfl, fun j hj => ?_⟩
            by_cases hjk : j < k
            · exact HJ.out j hjk
            · have : j = k := by omega
              subst this
              exact HQ.out
          case measure => simp [intOf]; omega
        · have hqb : (((s.get! k).toNat : Int) != ((t.get! k).toNat : Int)) = true := by
            rw [bne_iff_ne]
            intro h
            exact hq (UInt8.toNat_inj.1 (by omega))
          have HQ := Lib.hid hq
          clear hq
          go_wp2_with fail
          go_quiet (fail)
          go_wp2_with fail
          go_ret
          refine ⟨?_, below_drewN (HB.out _) _⟩
          have : ¬ s = t := by rintro rfl; exact HQ.out rfl
          rw [decide_eq_false this]
          rfl
      · go_wp2_with fail
        go_ret
        refine ⟨?_, HB.out _⟩
        have : s = t := bytes_ext s t HL.out (fun i hi => HJ.out i (by omega))
        rw [decide_eq_true this]
        rfl
  · have h1 : ((s.size : Int) != (t.size : Int)) = true := by rw [bne_iff_ne]; omega
    have HL := Lib.hid hl
    clear hl
    go_enter Try.func16, Try.ntmps16
    go_wp2
    go_ret
    refine ⟨?_, Below.refl _ _⟩
    have : ¬ s = t := by rintro rfl; exact HL.out rfl
    rw [decide_eq_false this]
    rfl

/-- The marks behind a text. -/
def marks (s : ByteArray) : Nat → ByteArray
  | 0 => s
  | k + 1 => (marks s k).push (UInt8.ofNat (k * 7 + 13))
theorem marks_size (s : ByteArray) : ∀ k, (marks s k).size = s.size + k
  | 0 => rfl
  | k + 1 => by rw [marks, size_push, marks_size s k]; omega
def wide (s : ByteArray) : ByteArray := marks s 96

set_option maxHeartbeats 400000 in
theorem wide_any (A : Option Addr) (c : Nat) (s : ByteArray) (w : World) (hs : RB w A s) (hm : s.size ≤ 140737488351232) :
    Calls Try.prog 6 #[.slice A s.size c] w fun e w' => ∃ v, e = .returned v ∧ OB w' w.heap.size v (wide s) ∧ Below w.heap.size w w' := by
  go_enter Try.func6, Try.ntmps6
  go_wp2_with fail
  refine (copy_any A c s w hs hm).mono ?_
  rintro e w1 ⟨v, rfl, hown, hb⟩
  go_wp2_with fail
  go_loopw [3, 4] (fun v i wr => ∃ k : Nat, k ≤ 96 ∧ i = .int .i64 (k : Int) ∧ OB wr w.heap.size v (marks s k) ∧ Below w.heap.size w wr) (fun _ i _ => 96 - (intOf i).toNat)
  case atStart => exact ⟨0, by omega, rfl, hown, hb⟩
  case round =>
    obtain ⟨k, hk, rfl, hown, hb⟩ := hrel
    have hsz := Lib.hid (marks_size s k)
    by_cases hp : k < 96
    · go_wp2_with (at_builtin; refine wpList_push rfl _ _ rfl _ _ _ _ _ (UInt8.ofNat (k * 7 + 13)) rfl rfl ?c1 hown hb.size (by rw [hsz.out]; omega) ?_; rotate_left; intro v1 w1 hown1 hb1)
      case c1 =>
        unfold bv
        congr 1
      go_roundw
      case rel => exact ⟨k + 1, by omega, by go_num, hown1, hb.trans hb1⟩
      case measure => simp [intOf]; omega
    · go_wp2
      go_ret
      have : k = 96 := by omega
      subst this
      exact ⟨_, rfl, hown, hb⟩

theorem wide_size (s : ByteArray) : (wide s).size = s.size + 96 := marks_size s 96

theorem marks_get (s : ByteArray) : ∀ k i, i < s.size → (marks s k).get! i = s.get! i
  | 0, _, _ => rfl
  | k + 1, i, h => by
    rw [← marks_get s k i h]
    have h1 : i < (marks s k).size := by rw [marks_size]; omega
    have h2 : i < (marks s (k + 1)).size := by rw [marks_size]; omega
    have g1 := bvs_get _ _ h1
    have g2 := bvs_get _ _ h2
    rw [marks, bvs_push, List.getElem?_append_left (by rw [bvs_length]; exact h1), g1] at g2
    injection g2 with g2
    unfold bv at g2
    injection g2 with _ g2
    exact (UInt8.toNat_inj.1 (by rw [marks]; omega)).symm

set_option maxHeartbeats 400000 in
theorem intact_any (A A' : Option Addr) (c c' : Nat) (s t : ByteArray) (w : World) (hs : RB w A s) (ht : RB w A' t) (hm : s.size ≤ 9223372036854775807) (hm2 : t.size ≤ 140737488351232) :
    Calls Try.prog 10 #[.slice A s.size c, .slice A' t.size c'] w (AnsB (decide (s = wide t)) w) := by
  go_enter Try.func10, Try.ntmps10
  go_wp2_with fail
  refine (wide_any A' c' t w ht hm2).mono ?_
  rintro e w1 ⟨v, rfl, hown, hb⟩
  obtain ⟨A1, c1, rfl, hr⟩ := hown.form
  have HR := Lib.hid hr
  have HB := Lib.hid hb
  have HS := Lib.hid (hs.below hb)
  clear hs ht hr hown hb
  go_wp2_with fail
  refine (same_any _ _ _ _ _ _ _ HS.out HR.out hm).mono ?_
  rintro e w2 ⟨rfl, hb2⟩
  go_wp2_with fail
  go_ret
  exact ⟨rfl, HB.out.trans (hb2.mono HB.out.size)⟩
end Go.Proofs.Ytjiblegnknhghaa
