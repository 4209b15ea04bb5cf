/- The law's example. -/
import Derived.Test.YtjiblegnknhghaaDoorDir
namespace Go.Proofs.YtjiblegnknhghaaDoor
open Go Go.RowKit
set_option linter.unusedVariables false

theorem topicE_eq (s : ByteArray) : topicE s = if s.data.toList = [] ∨ s.data.toList = [46] ∨ s.data.toList = [46, 46] then 40 else if 64 < s.size then 4 else if letsB s = true then 0 else 41 := by
  unfold topicE noName
  simp only [Lib.toList_data]
theorem al_topic : topicE ⟨#[105, 110, 45, 49]⟩ = 0 := by rw [topicE_eq]; decide +kernel
theorem al_bad : topicE ⟨#[97, 32, 98]⟩ = 41 := by rw [topicE_eq]; decide +kernel
theorem al_dir : dirAns ⟨#[105, 110, 45, 49]⟩ 0 = .tuple #[.string ⟨#[105, 110, 45, 49, 45, 48]⟩, .int .i64 0] := by
  unfold dirAns
  rw [al_topic]
  have : dirS ⟨#[105, 110, 45, 49]⟩ 0 = ⟨#[105, 110, 45, 49, 45, 48]⟩ := by unfold dirS; rw [Lib.decDigits_one (by decide)]; rfl
  rw [if_pos rfl, if_neg (by decide), if_pos rfl, if_neg (by decide)]
  rw [show (0 : Int).toNat = 0 from rfl, this]
theorem al_file : fileAns 7 = .tuple #[.string ⟨#[48, 48, 48, 48, 48, 48, 48, 48, 48, 48, 48, 48, 48, 48, 48, 48, 48, 48, 48, 55, 46, 108, 111, 103]⟩, .int .i64 0] := by
  unfold fileAns
  rw [if_neg (by decide)]
  have : fileS 7 = ⟨#[48, 48, 48, 48, 48, 48, 48, 48, 48, 48, 48, 48, 48, 48, 48, 48, 48, 48, 48, 55, 46, 108, 111, 103]⟩ := by
    unfold fileS
    rw [dec_pad 7 20 (by rw [Lib.nDigits_small (by decide)]; decide), Lib.nDigits_small (by decide), Lib.decDigits_one (by decide)]
    rfl
  rw [show (7 : Int).toNat = 7 from rfl, this]

set_option maxRecDepth 100000 in
set_option maxHeartbeats 1000000 in
theorem alive_any (w : World) (hl : LibOk w) : Calls Tryd.prog 9 #[] w fun r w' => r = .returned (.bool true) ∧ Below w.heap.size w w' := by
  have hd := dir_any ⟨#[105, 110, 45, 49]⟩ w (by decide) 0 (by decide) hl
  rw [al_dir] at hd
  have HD := Lib.hid hd
  have hf := fun (W : World) (h : LibOk W) => file_any W 7 h
  rw [al_file] at hf
  have HF := Lib.hid hf
  have ht := fun (W : World) => topic_any ⟨#[97, 32, 98]⟩ W (by decide)
  rw [al_bad] at ht
  have HT := Lib.hid ht
  have HL := Lib.hid hl
  clear hd hf ht hl
  go_enter Tryd.func9, Tryd.ntmps9
  go_wp2_with fail
  refine HD.out.mono ?_
  rintro r w1 ⟨rfl, h1⟩
  have L1 := Lib.hid (HL.out.below h1)
  have B1 := Lib.hid h1
  clear h1
  go_wp2_with fail
  refine (HF.out w1 L1.out).mono ?_
  rintro r w2 ⟨rfl, h2⟩
  have B2 : Hid (Below w.heap.size w w2) := B1.out.trans (h2.mono B1.out.size)
  clear h2
  go_wp2_with fail
  refine (HT.out w2).mono ?_
  rintro r w3 ⟨rfl, h3⟩
  have B3 : Hid (Below w.heap.size w w3) := B2.out.trans (h3.mono B2.out.size)
  clear h3
  go_wp2_with fail
  go_ret
  exact ⟨rfl, B3.out⟩
end Go.Proofs.YtjiblegnknhghaaDoor
