/- The law's 'same', and the reference's Places. -/
import Derived.Test.YtclinofekgpfaaaDoorPlaces
namespace Go.Proofs.YtclinofekgpfaaaDoor
open Go Go.RowKit
set_option linter.unusedVariables false

set_option maxHeartbeats 1000000 in
theorem same_any (w : World) (xs : List Int) (A A' : Option Addr) (c c' n : Nat) (hn : xs.length = n) (hm : n ≤ 140737488355328) (h1 : IRow w A xs) (h2 : IRow w A' xs) :
    Calls Tryd.prog 9 #[.slice A n c, .slice A' n c'] w fun r w' => r = .returned (.bool true) ∧ Below w.heap.size w w' := by
  have hb0 := Below.refl w.heap.size w
  have H1 := Lib.hid h1
  have H2 := Lib.hid h2
  have HN := Lib.hid hn
  clear h1 h2 hn
  go_enter Tryd.func9, Tryd.ntmps9
  go_wp2_with fail
  go_loopw [13] (fun i wr => ∃ m : Nat, i = .int .i64 (m : Int) ∧ m ≤ n ∧ Below w.heap.size w wr) (fun i _ => n - (intOf i).toNat)
  case atStart => exact ⟨0, rfl, Nat.zero_le _, hb0⟩
  case round =>
    obtain ⟨m, rfl, hmn, hbr⟩ := hrel
    have HBR := Lib.hid hbr
    by_cases hlt : m < n
    · obtain ⟨x, hx⟩ : ∃ x, xs[m]? = some x := ⟨_, List.getElem?_eq_getElem (by rw [HN.out]; exact hlt)⟩
      obtain ⟨b, o, rfl, hbl, hc⟩ := H1.out (by rw [HN.out]; omega)
      obtain ⟨b', o', rfl, hbl', hc'⟩ := H2.out (by rw [HN.out]; omega)
      have d0 := keep_cell hbr hbl (hc m x hx)
      have d1 := keep_cell hbr hbl' (hc' m x hx)
      clear hbr hc hc' hx
      have hq1 : (0 : Int) ≤ (m : Int) := by omega
      have hq2 : (m : Int) < (n : Int) := by omega
      go_wp2_with fail
      go_region
      go_wp2_with fail
      go_roundw
      case rel => exact ⟨m + 1, by go_num, by omega, HBR.out.drew⟩
      case measure => simp [intOf]; omega
    · have : m = n := by omega
      subst this
      clear hbr
      go_wp2_with fail
      go_ret
      exact ⟨rfl, HBR.out⟩

theorem drop_rev {α : Type} {l : List α} {k : Nat} {x : α} (h : l[k]? = some x) : (l.drop k).reverse = (l.drop (k + 1)).reverse ++ [x] := by
  obtain ⟨hk, rfl⟩ := List.getElem?_eq_some_iff.1 h
  rw [List.drop_eq_getElem_cons hk, List.reverse_cons]

set_option maxHeartbeats 1000000 in
theorem rplaces_any (w : World) (xs : List Int) (A : Option Addr) (c n : Nat) (hn : xs.length = n) (hm : n * 8 ≤ 140737488355328) (h1 : IRow w A xs) :
    Calls Tryd.prog 14 #[.slice A n c] w (IntRow w xs.reverse) := by
  have hb1 : Below w.heap.size w (w.alloc (.cells #[] 3)) := (Below.refl _ _).alloc (Nat.le_refl _) _
  have BZ := heap_alloc_new w (.cells #[] 3)
  have HR := Lib.hid h1
  have HN := Lib.hid hn
  have HB1 := Lib.hid hb1
  have O1 : Hid (Owns (w.alloc (.cells #[] 3)) w.heap.size 3 1 (.slice (some ⟨w.heap.size, 0, none⟩) 0 0) 0 ([].map (Value.int .i64))) := ⟨by simp, .inr ⟨_, 0, #[], rfl, Nat.le_refl _, BZ, Nat.le_refl _, by simp [maxLen], by simp, by simp⟩⟩
  have HW : Hid (w.heap.size < (w.alloc (.cells #[] 3)).heap.size) := by show _ < _; simp
  clear h1 hn hb1 BZ
  have hz : IntKind.i64.wrap ((n : Int) - 1) = (n : Int) - 1 := IntWalk.i64_in _ (by omega)
  go_enter Tryd.func14, Tryd.ntmps14
  go_wp2_with fail
  generalize w.alloc (.cells #[] 3) = W1 at *
  clear hz
  go_loopw [3, 4] (fun v i wr => ∃ (m : Nat) (j : Int), i = .int .i64 j ∧ Hid (j = (m : Int) - 1) ∧ m ≤ n ∧ Owns wr w.heap.size 3 1 v (n - m) ((xs.drop m).reverse.map (Value.int .i64)) ∧ Below w.heap.size w wr ∧ W1.heap.size ≤ wr.heap.size) (fun _ i _ => (intOf i + 1).toNat)
  case atStart => exact ⟨n, _, rfl, Lib.hid rfl, Nat.le_refl _, by rw [← HN.out, List.drop_length, Nat.sub_self]; exact O1.out, HB1.out, Nat.le_refl _⟩
  case round =>
    obtain ⟨m, j, rfl, HJ, hmn, hown, hbr, hsz⟩ := hrel
    have OWN := Lib.hid hown
    have BR := Lib.hid hbr
    have SZ := Lib.hid hsz
    obtain ⟨A5, c5, rfl⟩ := hown.slice
    cases m with
    | zero =>
      obtain rfl : j = -1 := by have := HJ.out; omega
      clear hown hbr hsz
      go_wp2_with fail
      go_ret
      refine ⟨_, rfl, ?_, BR.out⟩
      have h := OWN.out
      rw [List.drop_zero, Nat.sub_zero] at h
      rw [List.length_reverse, HN.out]
      exact h
    | succ m =>
      obtain rfl : j = (m : Int) := by have := HJ.out; omega
      obtain ⟨x, hx⟩ : ∃ x, xs[m]? = some x := ⟨_, List.getElem?_eq_getElem (by rw [HN.out]; omega)⟩
      obtain ⟨b, o, rfl, hbl, hc⟩ := HR.out (by rw [HN.out]; omega)
      have d0 := keep_cell hbr hbl (hc m x hx)
      have HD := Lib.hid (drop_rev hx)
      have hq1 : (0 : Int) ≤ (m : Int) := by omega
      have hq2 : (m : Int) < (n : Int) := by omega
      have hwz : w.heap.size ≤ wr.heap.size := hbr.size
      have hnm : n - m = n - (m + 1) + 1 := by omega
      have HNM := Lib.hid hnm
      clear hown hbr hsz hc hx HJ hnm
      generalize hnn : n - (m + 1) = q at *
      have HQ := Lib.hid hnn
      have hqr : (q + 1) * 8 ≤ 140737488355328 := by omega
      clear hnn
      go_wp2_with (at_builtin; refine wpList_push_int rfl _ _ rfl wr w.heap.size hwz (.slice A5 q c5) (xs.drop (m + 1)).reverse q x rfl rfl OWN.out hqr ?_; intro v4 w4 hown4 hk4 hs4; have OWN4 := Lib.hid hown4; have HK4 := Lib.hid hk4; clear hown4 hk4 hs4)
      go_roundw
      case rel =>
        refine ⟨m, _, rfl, Lib.hid rfl, by omega, ?_, BR.out.trans (HK4.out.below hwz fun k hk => (OWN.out.lt k hk).1), Nat.le_trans SZ.out HK4.out.size⟩
        have h := OWN4.out
        rw [HNM.out, HD.out]
        exact h
      case measure => simp [intOf]
end Go.Proofs.YtclinofekgpfaaaDoor
