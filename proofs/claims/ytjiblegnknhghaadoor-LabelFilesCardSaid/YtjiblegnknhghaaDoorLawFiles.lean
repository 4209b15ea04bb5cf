/- The law LabelFiles. -/
import Derived.Test.YtjiblegnknhghaaDoorAliveD
import Derived.Test.YtjiblegnknhghaaDoorUnFile
namespace Go.Proofs.YtjiblegnknhghaaDoor
open Go Go.RowKit
set_option linter.unusedVariables false

theorem fileAns_form (b : Int) : ∃ (X : ByteArray) (E : Int), fileAns b = .tuple #[.string X, .int .i64 E] ∧ (E = 0 ∨ E = 3) := by
  unfold fileAns
  split
  · exact ⟨_, _, rfl, .inr rfl⟩
  · exact ⟨_, _, rfl, .inl rfl⟩
theorem ufAns_form (s : ByteArray) : ∃ (N E : Int), ufAns s = .tuple #[.int .i64 N, .int .i64 E] ∧ (E = 0 ∨ E = 43) := by
  unfold ufAns
  split
  · exact ⟨_, _, rfl, .inl rfl⟩
  · exact ⟨_, _, rfl, .inr rfl⟩

set_option maxRecDepth 100000 in
set_option maxHeartbeats 1000000 in
theorem files_any (b : Int) (s : ByteArray) (w : World) (hb : -9223372036854775808 ≤ b ∧ b ≤ 9223372036854775807) (hm : s.size ≤ 140737488351232) (hl : LibOk w) (he : ErrOk w) :
    Calls Tryd.prog 7 #[.int .i64 b, .string s] w fun r w' => r = .returned (.bool true) ∧ Below w.heap.size w w' := by
  have HL := Lib.hid hl
  have HE := Lib.hid he
  have HF := Lib.hid (file_any w b hl)
  have HRF := Lib.hid (fun (W : World) => rfile_any W b)
  have HU := Lib.hid (fun (W : World) (h : LibOk W) (h2 : ErrOk W) => unfile_any s W hm h h2)
  have HRU := Lib.hid (fun (W : World) => runfile_any s W hm)
  have HAL := Lib.hid (fun (W : World) (h : LibOk W) => alive_any W h)
  obtain ⟨X, E, hX, hE⟩ := fileAns_form b
  obtain ⟨N, H, hN, hH⟩ := ufAns_form s
  have HX := Lib.hid hX
  have HN := Lib.hid hN
  clear hX hN hl he
  go_enter Tryd.func7, Tryd.ntmps7
  go_wp2_with fail
  refine HF.out.mono ?_
  rintro r w1 ⟨rfl, h1⟩
  rw [HX.out]
  have B1 := Lib.hid h1
  clear h1
  go_wp2_with fail
  refine (HRF.out w1).mono ?_
  rintro r w2 ⟨rfl, h2⟩
  rw [HX.out]
  have B2 : Hid (Below w.heap.size w w2) := B1.out.trans (h2.mono B1.out.size)
  have L2 := Lib.hid (HL.out.below B2.out)
  have E2 := Lib.hid (HE.out.below B2.out)
  clear h2
  go_wp2_with fail
  refine (HU.out w2 L2.out E2.out).mono ?_
  rintro r w3 ⟨rfl, h3⟩
  rw [HN.out]
  have B3 : Hid (Below w.heap.size w w3) := B2.out.trans (h3.mono B2.out.size)
  clear h3
  go_wp2_with fail
  refine (HRU.out w3).mono ?_
  rintro r w4 ⟨rfl, h4⟩
  rw [HN.out]
  have B4 : Hid (Below w.heap.size w w4) := B3.out.trans (h4.mono B3.out.size)
  have L4 := Lib.hid (HL.out.below B4.out)
  clear h4
  go_wp2_with fail
  refine (HAL.out w4 L4.out).mono ?_
  rintro r w5 ⟨rfl, h5⟩
  have B5 : Hid (Below w.heap.size w w5) := B4.out.trans (h5.mono B4.out.size)
  clear h5
  go_wp2_with fail
  go_ret
  exact ⟨ret_bool (by simp), B5.out⟩
end Go.Proofs.YtjiblegnknhghaaDoor
