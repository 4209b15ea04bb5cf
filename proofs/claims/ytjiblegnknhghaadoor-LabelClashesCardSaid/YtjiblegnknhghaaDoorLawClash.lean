/- The law LabelClashes. -/
import Derived.Test.YtjiblegnknhghaaDoorClash
namespace Go.Proofs.YtjiblegnknhghaaDoor
open Go Go.RowKit
set_option linter.unusedVariables false

theorem clash_comm (a b : ByteArray) : clashB a b = clashB b a := by
  unfold clashB
  rw [Bool.eq_iff_iff]
  simp only [Bool.and_eq_true, decide_eq_true_eq, Bool.not_eq_true', beq_eq_false_iff_ne, ne_eq, beq_iff_eq]
  constructor
  · rintro ⟨h1, h2, h3, h4⟩; exact ⟨h2, h1, fun h => h3 h.symm, h4.symm⟩
  · rintro ⟨h1, h2, h3, h4⟩; exact ⟨h2, h1, fun h => h3 h.symm, h4.symm⟩
theorem clash_self (a : ByteArray) : clashB a a = false := by simp [clashB]
theorem foldS_size (s : ByteArray) : (foldS s).size = s.size := by
  show ((s.data.toList.map sub1).toArray).size = _
  simp
theorem sub1_sub1 (c : UInt8) : sub1 (sub1 c) = sub1 c := by
  unfold sub1
  split
  · decide
  · rfl
theorem foldS_foldS (s : ByteArray) : foldS (foldS s) = foldS s := by
  have h : (foldS s).data.toList = s.data.toList.map sub1 := by simp [foldS]
  unfold foldS at h ⊢
  rw [h, List.map_map]
  congr 2
  apply List.map_congr_left
  intro c _
  exact sub1_sub1 c
theorem bat_foldS (s : ByteArray) (i : Nat) (h : i < s.size) : bat (foldS s) i = (sub1 (s.get! i)).toNat := by
  have h1 := get_at_data (foldS s) i (by rw [foldS_size]; exact h)
  have h2 := get_at_data s i h
  have e : (foldS s).data.toList = s.data.toList.map sub1 := by simp [foldS]
  rw [e, List.getElem?_map, h2] at h1
  injection h1 with h1
  unfold bat
  rw [← h1]
theorem let_sub (c : UInt8) (h : letN (c.toNat : Nat) = true) : letN ((sub1 c).toNat : Nat) = true := by
  unfold sub1
  split
  · decide
  · exact h
theorem topic_fold {s : ByteArray} (h : topicE s = 0) : topicE (foldS s) = 0 := by
  have e : (foldS s).data.toList = s.data.toList.map sub1 := by simp [foldS]
  rw [topicE_eq] at h ⊢
  split at h
  · cases h
  rename_i hno
  split at h
  · cases h
  rename_i hsz
  split at h
  · rename_i hlet
    have h46 : ∀ c : UInt8, sub1 c ≠ 46 := fun c => by unfold sub1; split <;> rename_i hc <;> first | decide | exact hc
    rw [if_neg ?_, foldS_size, if_neg hsz, if_pos ?_]
    · unfold letsB at hlet ⊢
      rw [List.all_eq_true] at hlet ⊢
      intro j hj
      have hjs := List.mem_range.1 hj
      rw [foldS_size] at hjs
      have h1 := hlet j (List.mem_range.2 hjs)
      rw [bat_foldS s j hjs]
      exact let_sub _ h1
    · rw [e]
      rintro (h1 | h1 | h1)
      · exact hno (.inl (by simpa using h1))
      · have := List.map_eq_cons_iff.1 h1
        obtain ⟨c, l, _, hc, _⟩ := this
        exact h46 c hc
      · have := List.map_eq_cons_iff.1 h1
        obtain ⟨c, l, _, hc, _⟩ := this
        exact h46 c hc
  · cases h
theorem clash_fold {s : ByteArray} (h : topicE s = 0) : clashB s (foldS s) = (!(s.toList == (foldS s).toList)) := by
  unfold clashB
  rw [topic_fold h, h, foldS_foldS]
  simp

theorem al_clash : clashB ⟨#[97, 46, 98]⟩ ⟨#[97, 95, 98]⟩ = true := by
  unfold clashB
  have h1 : topicE ⟨#[97, 46, 98]⟩ = 0 := by rw [topicE_eq]; decide +kernel
  have h2 : topicE ⟨#[97, 95, 98]⟩ = 0 := by rw [topicE_eq]; decide +kernel
  rw [h1, h2]
  simp only [Lib.toList_data]
  decide +kernel

set_option maxRecDepth 100000 in
set_option maxHeartbeats 2000000 in
theorem clashes_any (a b : ByteArray) (w : World) (ha : a.size ≤ 140737488351232) (hb : b.size ≤ 140737488351232) (hl : LibOk w) :
    Calls Tryd.prog 3 #[.string a, .string b] w fun r w' => r = .returned (.bool true) ∧ Below w.heap.size w w' := by
  have HL := Lib.hid hl
  have HAL := Lib.hid (alive_any w hl)
  have hc0 := fun (W : World) (h : LibOk W) => clash_any ⟨#[97, 46, 98]⟩ ⟨#[97, 95, 98]⟩ W (by decide) (by decide) h
  rw [al_clash] at hc0
  have HC0 := Lib.hid hc0
  have HC := Lib.hid (fun (W : World) (h : LibOk W) => clash_any a b W ha hb h)
  have HR := Lib.hid (fun (W : World) => rclash_any a b W ha hb)
  have hc1 := fun (W : World) (h : LibOk W) => clash_any b a W hb ha h
  rw [clash_comm b a] at hc1
  have HC1 := Lib.hid hc1
  have hc2 := fun (W : World) (h : LibOk W) => clash_any a a W ha ha h
  rw [clash_self] at hc2
  have HC2 := Lib.hid hc2
  have HF := Lib.hid (fun (W : World) (h : LibOk W) => fold_any a W ha h)
  clear hc0 hc1 hc2 hl
  by_cases hta : topicE a = 0
  · have HFA := Lib.hid (foldAns_ok hta)
    have hff := foldAns_ok (topic_fold hta)
    rw [foldS_foldS] at hff
    have HFF := Lib.hid hff
    have HF2 := Lib.hid (fun (W : World) (h : LibOk W) => fold_any (foldS a) W (by rw [foldS_size]; exact ha) h)
    have hc3 := fun (W : World) (h : LibOk W) => clash_any a (foldS a) W ha (by rw [foldS_size]; exact ha) h
    rw [clash_fold hta] at hc3
    have HC3 := Lib.hid hc3
    have HSZ := Lib.hid (foldS_size a)
    clear hta hff hc3
    generalize clashB a b = cb at *
    generalize foldS a = fa at *
    have hsz := HSZ.out
    cases cb
    all_goals
      go_enter Tryd.func3, Tryd.ntmps3
      go_wp2_with fail
      refine HAL.out.mono ?_
      rintro r w1 ⟨rfl, h1⟩
      have B1 := Lib.hid h1
      have L1 := Lib.hid (HL.out.below B1.out)
      clear h1
      go_wp2_with fail
      refine (HC0.out w1 L1.out).mono ?_
      rintro r w2 ⟨rfl, h2⟩
      have B2 : Hid (Below w.heap.size w w2) := B1.out.trans (h2.mono B1.out.size)
      have L2 := Lib.hid (HL.out.below B2.out)
      clear h2
      go_wp2_with fail
      refine (HC.out w2 L2.out).mono ?_
      rintro r w3 ⟨rfl, h3⟩
      have B3 : Hid (Below w.heap.size w w3) := B2.out.trans (h3.mono B2.out.size)
      clear h3
      go_wp2_with fail
      refine (HR.out w3).mono ?_
      rintro r w4 ⟨rfl, h4⟩
      have B4 : Hid (Below w.heap.size w w4) := B3.out.trans (h4.mono B3.out.size)
      have L4 := Lib.hid (HL.out.below B4.out)
      clear h4
      go_wp2_with fail
      refine (HC1.out w4 L4.out).mono ?_
      rintro r w5 ⟨rfl, h5⟩
      have B5 : Hid (Below w.heap.size w w5) := B4.out.trans (h5.mono B4.out.size)
      have L5 := Lib.hid (HL.out.below B5.out)
      clear h5
      go_wp2_with fail
      refine (HC2.out w5 L5.out).mono ?_
      rintro r w6 ⟨rfl, h6⟩
      have B6 : Hid (Below w.heap.size w w6) := B5.out.trans (h6.mono B5.out.size)
      have L6 := Lib.hid (HL.out.below B6.out)
      clear h6
      go_wp2_with fail
      refine (HF.out w6 L6.out).mono ?_
      rintro r w7 ⟨rfl, h7⟩
      rw [HFA.out]
      have B7 : Hid (Below w.heap.size w w7) := B6.out.trans (h7.mono B6.out.size)
      have L7 := Lib.hid (HL.out.below B7.out)
      clear h7
      go_wp2_with fail
      refine (HF2.out w7 L7.out).mono ?_
      rintro r w8 ⟨rfl, h8⟩
      rw [HFF.out]
      have B8 : Hid (Below w.heap.size w w8) := B7.out.trans (h8.mono B7.out.size)
      have L8 := Lib.hid (HL.out.below B8.out)
      clear h8
      go_wp2_with fail
      refine (HC3.out w8 L8.out).mono ?_
      rintro r w9 ⟨rfl, h9⟩
      have B9 : Hid (Below w.heap.size w w9) := B8.out.trans (h9.mono B8.out.size)
      clear h9
      go_wp2_with fail
      all_goals
        go_ret
        exact ⟨ret_bool (by simp), B9.out⟩
  · have HFA := Lib.hid (foldAns_no hta)
    have hne : (((topicE a : Nat) : Int) != 0) = true := by rw [bne_iff_ne]; omega
    have hcb : clashB a b = false := by simp [clashB, hta]
    have HCB := Lib.hid hcb
    clear hta hcb
    go_enter Tryd.func3, Tryd.ntmps3
    go_wp2_with fail
    refine HAL.out.mono ?_
    rintro r w1 ⟨rfl, h1⟩
    have B1 := Lib.hid h1
    have L1 := Lib.hid (HL.out.below B1.out)
    clear h1
    go_wp2_with fail
    refine (HC0.out w1 L1.out).mono ?_
    rintro r w2 ⟨rfl, h2⟩
    have B2 : Hid (Below w.heap.size w w2) := B1.out.trans (h2.mono B1.out.size)
    have L2 := Lib.hid (HL.out.below B2.out)
    clear h2
    go_wp2_with fail
    refine (HC.out w2 L2.out).mono ?_
    rintro r w3 ⟨rfl, h3⟩
    have B3 : Hid (Below w.heap.size w w3) := B2.out.trans (h3.mono B2.out.size)
    clear h3
    go_wp2_with fail
    refine (HR.out w3).mono ?_
    rintro r w4 ⟨rfl, h4⟩
    have B4 : Hid (Below w.heap.size w w4) := B3.out.trans (h4.mono B3.out.size)
    have L4 := Lib.hid (HL.out.below B4.out)
    clear h4
    go_wp2_with fail
    refine (HC1.out w4 L4.out).mono ?_
    rintro r w5 ⟨rfl, h5⟩
    have B5 : Hid (Below w.heap.size w w5) := B4.out.trans (h5.mono B4.out.size)
    have L5 := Lib.hid (HL.out.below B5.out)
    clear h5
    go_wp2_with fail
    refine (HC2.out w5 L5.out).mono ?_
    rintro r w6 ⟨rfl, h6⟩
    have B6 : Hid (Below w.heap.size w w6) := B5.out.trans (h6.mono B5.out.size)
    have L6 := Lib.hid (HL.out.below B6.out)
    clear h6
    go_wp2_with fail
    refine (HF.out w6 L6.out).mono ?_
    rintro r w7 ⟨rfl, h7⟩
    rw [HFA.out]
    have B7 : Hid (Below w.heap.size w w7) := B6.out.trans (h7.mono B6.out.size)
    have L7 := Lib.hid (HL.out.below B7.out)
    clear h7
    go_wp2_with fail
    go_ret
    exact ⟨ret_bool (by rw [HCB.out]; rfl), B7.out⟩
end Go.Proofs.YtjiblegnknhghaaDoor
