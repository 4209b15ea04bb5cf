/- The walk of LabelUtf: for every slice of bytes it answers true and leaves what was there as it was. -/
import Derived.Test.YtjiblegnknhghaaRunes
namespace Go.Proofs.Ytjiblegnknhghaa
open Go Go.RowKit

def lit0 : ByteArray := ⟨#[0x61, 0xc3, 0xa9, 0xc3]⟩
theorem utf_lit0 : utf lit0 = (3, false) := by decide +kernel

theorem add_zero' (g j : Nat) : (⟨g, 0, none⟩ : Addr).add j = ⟨g, j, none⟩ := by unfold Addr.add; split <;> simp_all

/-- A block that the call has just made of these bytes. -/
theorem rb_lit (w : World) (s : ByteArray) (cs : Array Value) (h : cs.toList = bvs s) : RB (w.alloc (.cells cs 5)) (some ⟨w.heap.size, 0, none⟩) s := by
  refine ⟨by rw [bvs_length]; omega, fun _ => ⟨_, rfl, by simp, fun j u hu => ?_⟩⟩
  rw [add_zero', cell_of_row _ w.heap.size j cs 5 (0, 0) (heap_alloc_new w _), ← Array.getElem?_toList, h]
  exact hu

theorem utf_of_lit0 (w : World) : Calls Try.prog 5 #[.slice (some ⟨w.heap.size, 0, none⟩) 4 4] (w.alloc (.cells #[.int .u8 97, .int .u8 195, .int .u8 169, .int .u8 195] 5))
    fun e w' => e = .returned (.tuple #[.int .i64 3, .bool false]) ∧ Below w.heap.size w w' := by
  refine (labelUtf_any _ 4 lit0 _ (rb_lit w lit0 _ rfl) (by decide)).mono ?_
  rintro e w' ⟨he, hb⟩
  refine ⟨by rw [he, utf_lit0]; rfl, ((Below.refl w.heap.size w).alloc (Nat.le_refl _) _).trans (hb.mono (by simp))⟩

theorem OB.ofWide {w : World} {B : Nat} {v : Value} {s : ByteArray} (h : OB w B v (wide s)) :
    ∃ a cap, v = .slice (some a) (s.size + 96) cap ∧ s.size + 96 ≤ cap ∧ cap ≤ maxLen ∧ RB w (some a) s ∧ RB w (some a) (wide s) := by
  obtain ⟨A, c, rfl, hr⟩ := h.form
  have h0 := h
  unfold OB at h
  rw [wide_size] at h
  rcases h.2 with ⟨hv, hn⟩ | ⟨g, cap, cur, hv, hg, hh, hnc, hcm, hsz, ht⟩
  · omega
  · injection hv with e1 e2 e3
    subst e1 e3
    refine ⟨_, _, by rw [wide_size], hnc, hcm, ⟨by rw [bvs_length]; omega, fun _ => ?_⟩, hr⟩
    obtain ⟨a, ha, hb, hc⟩ := hr.2 (by rw [wide_size]; omega)
    refine ⟨a, ha, hb, fun j u hu => hc j u ?_⟩
    have hj : j < s.size := by
      rcases Nat.lt_or_ge j s.size with h | h
      · exact h
      · rw [List.getElem?_eq_none (by rw [bvs_length]; exact h)] at hu
        cases hu
    rw [bvs_get s j hj] at hu
    rw [bvs_get _ j (by rw [wide_size]; omega), ← hu]
    unfold wide
    rw [marks_get s 96 j hj]

theorem intact_wide (A : Option Addr) (a : Addr) (c cap : Nat) (s : ByteArray) (w : World) (hs : RB w A s) (ht : RB w (some a) (wide s)) (hm : s.size ≤ 140737488351232) :
    Calls Try.prog 10 #[.slice (some a) (s.size + 96) cap, .slice A s.size c] w (AnsB true w) := by
  have h := intact_any (some a) A cap c (wide s) s w ht hs (by rw [wide_size]; omega) hm
  rw [wide_size, decide_eq_true rfl] at h
  exact h

set_option maxRecDepth 100000 in
set_option maxHeartbeats 1000000 in
theorem lawUtf (A : Option Addr) (c : Nat) (s : ByteArray) (w : World) (hs : RB w A s) (hm : s.size ≤ 140737488351232) :
    Calls Try.prog 3 #[.slice A s.size c] w (AnsB true w) := by
  have HS := Lib.hid hs
  clear hs
  go_enter Try.func3, Try.ntmps3
  go_wp2_with fail
  refine (utf_of_lit0 w).mono ?_
  rintro e w1 ⟨rfl, hb1⟩
  have HB1 := Lib.hid hb1
  have HS1 := Lib.hid (HS.out.below hb1)
  clear hb1
  go_wp2_with fail
  refine (wide_any _ _ _ _ HS1.out hm).mono ?_
  rintro e w2 ⟨v, rfl, hown, hb2⟩
  obtain ⟨a, cap, rfl, hc1, hc2, hr1, hr2⟩ := hown.ofWide
  have HS2 := Lib.hid (HS1.out.below hb2)
  have HB2 := Lib.hid (HB1.out.trans (hb2.mono HB1.out.size))
  have HR1 := Lib.hid hr1
  have HR2 := Lib.hid hr2
  clear hb2 hown hr1 hr2
  go_wp2_with fail
  refine (labelUtf_any _ _ s _ HR1.out hm).mono ?_
  rintro e w3 ⟨rfl, hb3⟩
  have HS3 := Lib.hid (HS2.out.below hb3)
  have HR3 := Lib.hid (HR2.out.below hb3)
  have HB3 := Lib.hid (HB2.out.trans (hb3.mono HB2.out.size))
  clear hb3
  go_wp2_with fail
  refine (refUtf_any _ _ s _ HS3.out hm).mono ?_
  rintro e w4 ⟨rfl, rfl⟩
  have hcv := run_string (P := Try.prog) HS3.out c 22 5 9 Try.underlying22 Try.underlying5 Try.underlying9
  go_wp2_with fail
  refine (labelRunes_any s _ hm).mono ?_
  rintro e w5 ⟨rfl, hb5⟩
  have HS5 := Lib.hid (HS3.out.below hb5)
  have HR5 := Lib.hid (HR3.out.below hb5)
  have HB5 := Lib.hid (HB3.out.trans (hb5.mono HB3.out.size))
  clear hb5 hcv
  have hcv := run_string (P := Try.prog) HS5.out c 22 5 9 Try.underlying22 Try.underlying5 Try.underlying9
  go_wp2_with fail
  refine (refRunes_any s _ hm).mono ?_
  rintro e w6 ⟨rfl, hb6⟩
  have HS6 := Lib.hid (HS5.out.below hb6)
  have HR6 := Lib.hid (HR5.out.below hb6)
  have HB6 := Lib.hid (HB5.out.trans (hb6.mono HB5.out.size))
  clear hb6 hcv
  go_wp2_with fail
  refine (intact_wide A a c cap s _ HS6.out HR6.out hm).mono ?_
  rintro e w7 ⟨rfl, hb7⟩
  go_wp2_with fail
  go_ret
  exact ⟨rfl, HB6.out.trans (hb7.mono HB6.out.size)⟩
end Go.Proofs.Ytjiblegnknhghaa
