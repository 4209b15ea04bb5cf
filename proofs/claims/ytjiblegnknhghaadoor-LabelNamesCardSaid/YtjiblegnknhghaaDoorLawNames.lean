/- The law LabelNames. -/
import Derived.Test.YtjiblegnknhghaaDoorAliveD
import Derived.Test.YtjiblegnknhghaaDoorClient
namespace Go.Proofs.YtjiblegnknhghaaDoor
open Go Go.RowKit
set_option linter.unusedVariables false

theorem foldAns_any (s : ByteArray) : ∃ X : ByteArray, foldAns s = .tuple #[.string X, .int .i64 (topicE s : Nat)] := ⟨_, rfl⟩

set_option maxRecDepth 100000 in
set_option maxHeartbeats 1000000 in
theorem names_any (s : ByteArray) (w : World) (hm : s.size ≤ 140737488351232) (hl : LibOk w) :
    Calls Tryd.prog 4 #[.string s] w fun r w' => r = .returned (.bool true) ∧ Below w.heap.size w w' := by
  have HL := Lib.hid hl
  have HF := Lib.hid (fold_any s w hm hl)
  have HRF := Lib.hid (fun (W : World) => rfold_any s W hm)
  have HAL := Lib.hid (fun (W : World) (h : LibOk W) => alive_any W h)
  have HT := Lib.hid (fun (W : World) => topic_any s W hm)
  have HRT := Lib.hid (fun (W : World) => rtopic_any s W hm)
  have HC := Lib.hid (fun (W : World) => client_any s W hm)
  have HRC := Lib.hid (fun (W : World) => rclient_any s W hm)
  obtain ⟨X, hX⟩ := foldAns_any s
  have HX := Lib.hid hX
  clear hX hl
  go_enter Tryd.func4, Tryd.ntmps4
  go_wp2_with fail
  refine HF.out.mono ?_
  rintro r w1 ⟨rfl, h1⟩
  rw [HX.out]
  have B1 := Lib.hid h1
  have L1 := Lib.hid (HL.out.below B1.out)
  clear h1
  go_wp2_with fail
  refine (HRF.out w1).mono ?_
  rintro r w2 ⟨rfl, h2⟩
  rw [HX.out]
  have B2 : Hid (Below w.heap.size w w2) := B1.out.trans (h2.mono B1.out.size)
  have L2 := Lib.hid (HL.out.below B2.out)
  clear h2
  go_wp2_with fail
  refine (HAL.out w2 L2.out).mono ?_
  rintro r w3 ⟨rfl, h3⟩
  have B3 : Hid (Below w.heap.size w w3) := B2.out.trans (h3.mono B2.out.size)
  clear h3
  go_wp2_with fail
  refine (HT.out w3).mono ?_
  rintro r w4 ⟨rfl, h4⟩
  have B4 : Hid (Below w.heap.size w w4) := B3.out.trans (h4.mono B3.out.size)
  clear h4
  go_wp2_with fail
  refine (HRT.out w4).mono ?_
  rintro r w5 ⟨rfl, rfl⟩
  go_wp2_with fail
  refine (HC.out w4).mono ?_
  rintro r w6 ⟨rfl, h6⟩
  have B6 : Hid (Below w.heap.size w w6) := B4.out.trans (h6.mono B4.out.size)
  clear h6
  go_wp2_with fail
  refine (HRC.out w6).mono ?_
  rintro r w7 ⟨rfl, h7⟩
  have B7 : Hid (Below w.heap.size w w7) := B6.out.trans (h7.mono B6.out.size)
  clear h7
  go_wp2_with fail
  go_ret
  exact ⟨ret_bool (by simp), B7.out⟩
end Go.Proofs.YtjiblegnknhghaaDoor
