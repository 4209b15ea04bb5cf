/- The walks of UnDir in both texts. -/
import Derived.Test.YtjiblegnknhghaaDoorUnDirP
import Derived.OwnWalk
namespace Go.Proofs.YtjiblegnknhghaaDoor
open Go Go.RowKit
set_option linter.unusedVariables false

theorem last_any (s : ByteArray) (hm : s.size ≤ 140737488351232) (w : World) :
    Calls Tryd.prog 33 #[.string s, .int .u8 45] w fun r w' => r = .returned (.int .i64 (lst s)) ∧ w' = w :=
  Tryd.strings_LastIndexByte s 45 (by omega) w
theorem ex_to (s : ByteArray) (k : Nat) : (s.extract k s.size).data.toList = s.data.toList.drop k := by rw [← Lib.toList_data, extract_to]
theorem ex_size (s : ByteArray) (k : Nat) : (s.extract k s.size).size ≤ s.size := by rw [← size_toList, ex_to, List.length_drop, size_toList]; omega
theorem ex0_size (s : ByteArray) (k : Nat) : (s.extract 0 k).size ≤ s.size := by rw [← size_toList, extract_data, List.length_take, size_toList]; omega
theorem dirAns_ok {t : ByteArray} {n : Nat} (h : topicE t = 0) : dirAns t (n : Int) = .tuple #[.string (dirS t n), .int .i64 0] := by
  unfold dirAns
  rw [if_pos h, if_neg (by omega), if_pos h, if_neg (by omega), Int.toNat_natCast]
theorem dirAns_bad {t : ByteArray} {v : Int} (h : ¬ (topicE t = 0 ∧ 0 ≤ v)) : ∃ E : Int, dirAns t v = .tuple #[.string ByteArray.empty, .int .i64 E] ∧ 0 < E := by
  unfold dirAns
  by_cases ht : topicE t = 0
  · rw [if_pos ht, if_pos ht, if_pos (by omega), if_pos (by omega)]
    exact ⟨_, rfl, by decide⟩
  · rw [if_neg ht, if_neg ht]
    exact ⟨_, rfl, by omega⟩

section
variable (s : ByteArray) (w : World) (hm : s.size ≤ 140737488351232)
include hm
set_option maxRecDepth 100000 in
set_option maxHeartbeats 2000000 in
theorem undir_any (hl : LibOk w) (he : ErrOk w) : Calls Tryd.prog 20 #[.string s] w fun r w' => r = .returned (udAns s) ∧ Below w.heap.size w w' := by
  have HL := Lib.hid hl
  have HE := Lib.hid he
  have HI := Lib.hid (last_any s hm w)
  clear hl he
  rcases lst_cases s with ⟨h1, hn⟩ | ⟨i, hi, h1, hn, hs⟩
  · have HLST := Lib.hid h1
    have HA := Lib.hid (udAns_none hn)
    clear h1 hn
    go_enter Tryd.func20, Tryd.ntmps20
    go_wp2_with fail
    refine HI.out.mono ?_
    rintro r w1 ⟨rfl, rfl⟩
    rw [HLST.out]
    go_wp2_with fail
    go_ret3
    exact ⟨by rw [HA.out]; rfl, Below.refl _ _⟩
  · have HLST := Lib.hid h1
    have hes := ex_size s (i + 1)
    have het := ex0_size s i
    cases hu : udAt s i with
    | some x =>
      obtain ⟨t, n⟩ := x
      obtain ⟨u1, u2, u3, u4, u5, _⟩ := ud_at hs hu
      simp only at u2 u3 u4 u5
      subst u4
      have HA := Lib.hid (udAns_some (hn.trans hu))
      have HP := Lib.hid (p32_ok (s.extract (i + 1) s.size) (by omega) (n : Int) (by rw [ex_to, u3]; exact parseInt_dec 32 n (by decide) (by decide) (by omega)) w)
      have HD := Lib.hid (fun (W : World) (h : LibOk W) => dir_any (s.extract 0 i) W (by omega) (n : Int) (by omega) h)
      have HDA := Lib.hid (dirAns_ok (n := n) u1)
      have hne : ((dirS (s.extract 0 i) n).toList == s.toList) = true := by rw [u5]; simp
      clear h1 hn hs hu u3 u5 u1
      go_enter Tryd.func20, Tryd.ntmps20
      go_wp2_with fail
      refine HI.out.mono ?_
      rintro r w1 ⟨rfl, rfl⟩
      rw [HLST.out]
      go_wp2_with fail
      refine HP.out.mono ?_
      rintro r w2 ⟨rfl, h2⟩
      have B2 := Lib.hid h2
      have L2 := Lib.hid (HL.out.below h2)
      clear h2
      go_wp2_with fail
      refine (HD.out w2 L2.out).mono ?_
      rintro r w3 ⟨rfl, h3⟩
      rw [HDA.out]
      have B3 : Hid (Below w1.heap.size w1 w3) := B2.out.trans (h3.mono B2.out.size)
      clear h3
      go_wp2_with fail
      go_ret3
      exact ⟨by rw [HA.out]; rfl, B3.out⟩
    | none =>
      have HA := Lib.hid (udAns_none (hn.trans hu))
      have HN := Lib.hid (show ∀ n : Nat, topicE (s.extract 0 i) = 0 → n ≤ 2147483647 → ((dirS (s.extract 0 i) n).toList == s.toList) = false by
        intro n h1 h2
        rw [beq_eq_false_iff_ne]
        intro h3
        have h4 : dirS (s.extract 0 i) n = s := by
          rw [Lib.toList_data, Lib.toList_data] at h3
          rw [← strOf_data (dirS (s.extract 0 i) n), h3, strOf_data]
        have h5 := ud_dir h1 h2
        rw [h4, hn, hu] at h5
        cases h5)
      cases hp : Lib.parseIntB 32 (s.extract (i + 1) s.size).data.toList with
      | ok v =>
        have HP := Lib.hid (p32_ok (s.extract (i + 1) s.size) (by omega) v hp w)
        have hv := p_range 32 (by decide) (by decide) _ v hp
        have hv1 : -2147483648 ≤ v := by omega
        have hv2 : v ≤ 2147483647 := by omega
        have HD := Lib.hid (fun (W : World) (h : LibOk W) => dir_any (s.extract 0 i) W (by omega) v ⟨hv1, hv2⟩ h)
        clear hp hv
        by_cases hg : topicE (s.extract 0 i) = 0 ∧ 0 ≤ v
        · obtain ⟨g1, g2⟩ := hg
          obtain ⟨n, rfl⟩ := Int.eq_ofNat_of_zero_le g2
          have HDA := Lib.hid (dirAns_ok (n := n) g1)
          have hne := HN.out n g1 (by omega)
          clear h1 hn hs hu g1
          go_enter Tryd.func20, Tryd.ntmps20
          go_wp2_with fail
          refine HI.out.mono ?_
          rintro r w1 ⟨rfl, rfl⟩
          rw [HLST.out]
          go_wp2_with fail
          refine HP.out.mono ?_
          rintro r w2 ⟨rfl, h2⟩
          have B2 := Lib.hid h2
          have L2 := Lib.hid (HL.out.below h2)
          clear h2
          go_wp2_with fail
          refine (HD.out w2 L2.out).mono ?_
          rintro r w3 ⟨rfl, h3⟩
          rw [HDA.out]
          have B3 : Hid (Below w1.heap.size w1 w3) := B2.out.trans (h3.mono B2.out.size)
          clear h3
          go_wp2_with fail
          go_ret3
          exact ⟨by rw [HA.out]; rfl, B3.out⟩
        · obtain ⟨E, hE, hE0⟩ := dirAns_bad hg
          have HDA := Lib.hid hE
          clear h1 hn hs hu hE hg
          go_enter Tryd.func20, Tryd.ntmps20
          go_wp2_with fail
          refine HI.out.mono ?_
          rintro r w1 ⟨rfl, rfl⟩
          rw [HLST.out]
          go_wp2_with fail
          refine HP.out.mono ?_
          rintro r w2 ⟨rfl, h2⟩
          have B2 := Lib.hid h2
          have L2 := Lib.hid (HL.out.below h2)
          clear h2
          go_wp2_with fail
          refine (HD.out w2 L2.out).mono ?_
          rintro r w3 ⟨rfl, h3⟩
          rw [HDA.out]
          have B3 : Hid (Below w1.heap.size w1 w3) := B2.out.trans (h3.mono B2.out.size)
          clear h3
          go_wp2_with fail
          go_ret3
          exact ⟨by rw [HA.out]; rfl, B3.out⟩
      | _ =>
        have HP := Lib.hid (p32_bad (s.extract (i + 1) s.size) (by omega) (fun v hv => by rw [hp] at hv; cases hv) w HE.out)
        clear hp h1 hn hs hu
        go_enter Tryd.func20, Tryd.ntmps20
        go_wp2_with fail
        refine HI.out.mono ?_
        rintro r w1 ⟨rfl, rfl⟩
        rw [HLST.out]
        go_wp2_with fail
        refine HP.out.mono ?_
        rintro r w2 ⟨v, N, rfl, h2⟩
        have B2 := Lib.hid h2
        clear h2
        go_wp2_with fail
        go_ret3
        exact ⟨by rw [HA.out]; rfl, B2.out⟩
end
end Go.Proofs.YtjiblegnknhghaaDoor
