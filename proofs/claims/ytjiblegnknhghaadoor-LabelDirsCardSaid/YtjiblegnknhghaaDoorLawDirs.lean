/- The law LabelDirs. -/
import Derived.Test.YtjiblegnknhghaaDoorAliveD
import Derived.Test.YtjiblegnknhghaaDoorUnDirR
namespace Go.Proofs.YtjiblegnknhghaaDoor
open Go Go.RowKit
set_option linter.unusedVariables false

theorem dirAns_form (t : ByteArray) (p : Int) : ∃ (X : ByteArray) (E : Int), dirAns t p = .tuple #[.string X, .int .i64 E] := ⟨_, _, rfl⟩

set_option maxRecDepth 100000 in
set_option maxHeartbeats 1000000 in
theorem dirs_any (t : ByteArray) (p : Int) (s : ByteArray) (w : World) (ht : t.size ≤ 140737488351232) (hp : -2147483648 ≤ p ∧ p ≤ 2147483647) (hs : s.size ≤ 140737488351232) (hl : LibOk w) (he : ErrOk w) :
    Calls Tryd.prog 5 #[.string t, .int .i32 p, .string s] w fun r w' => r = .returned (.bool true) ∧ Below w.heap.size w w' := by
  have HL := Lib.hid hl
  have HE := Lib.hid he
  have HD := Lib.hid (dir_any t w ht p hp hl)
  have HRD := Lib.hid (fun (W : World) => rdir_any t W ht p hp)
  have HAL := Lib.hid (fun (W : World) (h : LibOk W) => alive_any W h)
  have HU := Lib.hid (fun (W : World) (h : LibOk W) (h2 : ErrOk W) => undir_any s W hs h h2)
  have HRU := Lib.hid (fun (W : World) => rundir_any s W hs)
  obtain ⟨X, E, hX⟩ := dirAns_form t p
  have HX := Lib.hid hX
  cases hu : udN s with
  | none =>
    have HN := Lib.hid (udAns_none hu)
    clear hX hl he hu
    go_enter Tryd.func5, Tryd.ntmps5
    go_wp2_with fail
    refine HD.out.mono ?_
    rintro r w1 ⟨rfl, h1⟩
    rw [HX.out]
    have B1 := Lib.hid h1
    clear h1
    go_wp2_with fail
    refine (HRD.out w1).mono ?_
    rintro r w2 ⟨rfl, h2⟩
    rw [HX.out]
    have B2 : Hid (Below w.heap.size w w2) := B1.out.trans (h2.mono B1.out.size)
    have L2 := Lib.hid (HL.out.below B2.out)
    clear h2
    go_wp2_with fail
    refine (HAL.out w2 L2.out).mono ?_
    rintro r w3 ⟨rfl, h3⟩
    have B3 : Hid (Below w.heap.size w w3) := B2.out.trans (h3.mono B2.out.size)
    have L3 := Lib.hid (HL.out.below B3.out)
    have E3 := Lib.hid (HE.out.below B3.out)
    clear h3
    go_wp2_with fail
    refine (HU.out w3 L3.out E3.out).mono ?_
    rintro r w4 ⟨rfl, h4⟩
    rw [HN.out]
    have B4 : Hid (Below w.heap.size w w4) := B3.out.trans (h4.mono B3.out.size)
    clear h4
    go_wp2_with fail
    refine (HRU.out w4).mono ?_
    rintro r w5 ⟨rfl, h5⟩
    rw [HN.out]
    have B5 : Hid (Below w.heap.size w w5) := B4.out.trans (h5.mono B4.out.size)
    clear h5
    go_wp2_with fail
    go_ret
    exact ⟨rfl, B5.out⟩
  | some x =>
    obtain ⟨u, n⟩ := x
    have HN := Lib.hid (udAns_some hu)
    obtain ⟨i, hi, h1, h2, hss⟩ : ∃ i : Nat, i < s.size ∧ lst s = i ∧ udN s = udAt s i ∧ s.data.toList = s.data.toList.take i ++ 45 :: s.data.toList.drop (i + 1) := by
      rcases lst_cases s with ⟨_, h⟩ | h
      · rw [hu] at h; cases h
      · exact h
    obtain ⟨u1, u2, _, u4, u5, _⟩ := ud_at hss (h2.symm.trans hu)
    simp only at u2 u4 u5
    subst u4
    have hxs := ex0_size s i
    have HB := Lib.hid (fun (W : World) (h : LibOk W) => dir_any (s.extract 0 i) W (by omega) (n : Int) (by omega) h)
    have HBA := Lib.hid (dirAns_ok (n := n) u1)
    have heq : ((dirS (s.extract 0 i) n).toList == s.toList) = true := by rw [u5]; simp
    clear hX hl he hu u1 u5 h1 h2 hss
    go_enter Tryd.func5, Tryd.ntmps5
    go_wp2_with fail
    refine HD.out.mono ?_
    rintro r w1 ⟨rfl, h1⟩
    rw [HX.out]
    have B1 := Lib.hid h1
    clear h1
    go_wp2_with fail
    refine (HRD.out w1).mono ?_
    rintro r w2 ⟨rfl, h2⟩
    rw [HX.out]
    have B2 : Hid (Below w.heap.size w w2) := B1.out.trans (h2.mono B1.out.size)
    have L2 := Lib.hid (HL.out.below B2.out)
    clear h2
    go_wp2_with fail
    refine (HAL.out w2 L2.out).mono ?_
    rintro r w3 ⟨rfl, h3⟩
    have B3 : Hid (Below w.heap.size w w3) := B2.out.trans (h3.mono B2.out.size)
    have L3 := Lib.hid (HL.out.below B3.out)
    have E3 := Lib.hid (HE.out.below B3.out)
    clear h3
    go_wp2_with fail
    refine (HU.out w3 L3.out E3.out).mono ?_
    rintro r w4 ⟨rfl, h4⟩
    rw [HN.out]
    have B4 : Hid (Below w.heap.size w w4) := B3.out.trans (h4.mono B3.out.size)
    clear h4
    go_wp2_with fail
    refine (HRU.out w4).mono ?_
    rintro r w5 ⟨rfl, h5⟩
    rw [HN.out]
    have B5 : Hid (Below w.heap.size w w5) := B4.out.trans (h5.mono B4.out.size)
    have L5 := Lib.hid (HL.out.below B5.out)
    clear h5
    go_wp2_with fail
    refine (HB.out w5 L5.out).mono ?_
    rintro r w6 ⟨rfl, h6⟩
    rw [HBA.out]
    have B6 : Hid (Below w.heap.size w w6) := B5.out.trans (h6.mono B5.out.size)
    clear h6
    go_wp2_with fail
    go_ret
    exact ⟨ret_bool (by first | rfl | simp [heq]), B6.out⟩
end Go.Proofs.YtjiblegnknhghaaDoor
