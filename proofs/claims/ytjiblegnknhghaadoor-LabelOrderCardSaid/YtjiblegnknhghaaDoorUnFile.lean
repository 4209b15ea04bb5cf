/- The walks of UnFile in both texts. -/
import Derived.Test.YtjiblegnknhghaaDoorParseD
namespace Go.Proofs.YtjiblegnknhghaaDoor
open Go Go.RowKit
set_option linter.unusedVariables false

theorem ufAns_some {s : ByteArray} {n : Nat} (h : ufN s = some n) : ufAns s = .tuple #[.int .i64 (n : Int), .int .i64 0] := by unfold ufAns; rw [h]
theorem ufAns_none {s : ByteArray} (h : ufN s = none) : ufAns s = .tuple #[.int .i64 0, .int .i64 43] := by unfold ufAns; rw [h]
theorem fileAns_in {n : Nat} (h : n ≤ 4611686018427387904) : fileAns (n : Int) = .tuple #[.string (fileS n), .int .i64 0] := by
  unfold fileAns
  rw [if_neg (by omega), Int.toNat_natCast]
theorem size_data (s : ByteArray) : s.data.toList.length = s.size := by rw [Array.length_toList]; rfl
/-- strings.CutSuffix at '.log'. -/
def cutB (s : ByteArray) : Bool := Lib.hasSuffix s.data.toList logB
def cutS (s : ByteArray) : ByteArray := strOf (Lib.trimSuffix s.data.toList logB)
theorem cut_any (s : ByteArray) (w : World) (hm : s.size ≤ 140737488351232) :
    Calls Tryd.prog 38 #[.string s, .string ⟨#[46, 108, 111, 103]⟩] w fun r w' => r = .returned (.tuple #[.string (cutS s), .bool (cutB s)]) ∧ w' = w :=
  Tryd.strings_CutSuffix s ⟨#[46, 108, 111, 103]⟩ w (by omega)
theorem cut_file (n : Nat) : cutS (fileS n) = strOf (dec n 20) ∧ cutB (fileS n) = true := by
  have h : Lib.hasSuffix (dec n 20 ++ logB) logB = true := by
    unfold Lib.hasSuffix
    rw [List.isSuffixOf_iff_suffix]
    exact List.suffix_append _ _
  refine ⟨?_, by unfold cutB; rw [fileS_data]; exact h⟩
  unfold cutS Lib.trimSuffix
  rw [fileS_data, if_pos h]
  congr 1
  rw [List.length_append, Nat.add_sub_cancel, List.take_left]
theorem cutS_size (s : ByteArray) : (cutS s).size ≤ s.size := by
  unfold cutS Lib.trimSuffix
  rw [strOf_size, ← size_data s]
  split
  · rw [List.length_take]; omega
  · exact Nat.le_refl _

theorem logB_list (s : ByteArray) (hl : s.data.toList.drop 20 = logB) (n : Nat) : s.data.toList = dec n 20 ++ logB ↔ s.data.toList.take 20 = dec n 20 := by
  have e : s.data.toList = s.data.toList.take 20 ++ logB := by rw [← hl, List.take_append_drop]
  constructor
  · intro h2
    have e2 := e.symm.trans h2
    exact List.append_cancel_right e2
  · intro h2
    rw [← h2]
    exact e

section
variable (s : ByteArray) (w : World) (hm : s.size ≤ 140737488351232)
include hm
set_option maxRecDepth 100000 in
set_option maxHeartbeats 2000000 in
theorem unfile_any (hl : LibOk w) (he : ErrOk w) : Calls Tryd.prog 24 #[.string s] w fun r w' => r = .returned (ufAns s) ∧ Below w.heap.size w w' := by
  have HL := Lib.hid hl
  have HE := Lib.hid he
  have HC := Lib.hid (cut_any s w hm)
  have hcs := cutS_size s
  clear hl he
  cases hn : ufN s with
  | some n =>
    obtain ⟨hn1, rfl⟩ := uf_some hn
    have HA := Lib.hid (ufAns_some hn)
    have HC1 := Lib.hid (cut_file n).1
    have HC2 := Lib.hid (cut_file n).2
    have hsz : (strOf (dec n 20)).size = 20 := by rw [strOf_size, dec20 hn1]
    have HP := Lib.hid (p64_ok (strOf (dec n 20)) (by omega) n (by rw [show (strOf (dec n 20)).data.toList = dec n 20 by simp [strOf]]; exact p64_dec20 hn1) w)
    have HF := Lib.hid (fun (W : World) (h : LibOk W) => file_any W (n : Int) h)
    have HFA := Lib.hid (fileAns_in hn1)
    have hne : ((fileS n).toList == (fileS n).toList) = true := by simp
    clear hn hcs
    go_enter Tryd.func24, Tryd.ntmps24
    go_wp2_with fail
    refine HC.out.mono ?_
    rintro r w1 ⟨rfl, rfl⟩
    rw [HC1.out, HC2.out]
    go_wp2_with fail
    refine HP.out.mono ?_
    rintro r w2 ⟨rfl, h2⟩
    have B2 := Lib.hid h2
    have L2 := Lib.hid (HL.out.below h2)
    clear h2
    go_wp2_with fail
    refine (HF.out w2 L2.out).mono ?_
    rintro r w3 ⟨rfl, h3⟩
    rw [HFA.out]
    have B3 : Hid (Below w1.heap.size w1 w3) := B2.out.trans (h3.mono B2.out.size)
    clear h3
    go_wp2_with fail
    go_ret2
    exact ⟨by rw [HA.out]; rfl, B3.out⟩
  | none =>
    have HA := Lib.hid (ufAns_none hn)
    have HN := Lib.hid (show ∀ n : Nat, n ≤ 4611686018427387904 → (fileS n).toList ≠ s.toList by
      intro n h1 h2
      have : fileS n = s := by
        rw [Lib.toList_data, Lib.toList_data] at h2
        rw [← strOf_data (fileS n), h2, strOf_data]
      rw [← this, uf_file h1] at hn
      cases hn)
    clear hn
    cases hc : cutB s with
    | false =>
      have HCB := Lib.hid hc
      clear hc
      go_enter Tryd.func24, Tryd.ntmps24
      go_wp2_with fail
      refine HC.out.mono ?_
      rintro r w1 ⟨rfl, rfl⟩
      rw [HCB.out]
      go_wp2_with fail
      go_ret2
      exact ⟨by rw [HA.out]; rfl, Below.refl _ _⟩
    | true =>
      have HCB := Lib.hid hc
      clear hc
      by_cases h20 : (cutS s).size = 20
      · cases hp : Lib.parseIntB 64 (cutS s).data.toList with
        | ok v =>
          have HP := Lib.hid (p64_ok (cutS s) (by omega) v hp w)
          have hv := p_range 64 (by decide) (by decide) _ v hp
          have HF := Lib.hid (fun (W : World) (h : LibOk W) => file_any W v h)
          clear hp
          by_cases hout : v < 0 ∨ 4611686018427387904 < v
          · have HFA := Lib.hid (show fileAns v = .tuple #[.string ByteArray.empty, .int .i64 3] by unfold fileAns; rw [if_pos hout])
            clear hout
            go_enter Tryd.func24, Tryd.ntmps24
            go_wp2_with fail
            refine HC.out.mono ?_
            rintro r w1 ⟨rfl, rfl⟩
            rw [HCB.out]
            go_wp2_with fail
            refine HP.out.mono ?_
            rintro r w2 ⟨rfl, h2⟩
            have B2 := Lib.hid h2
            have L2 := Lib.hid (HL.out.below h2)
            clear h2
            go_wp2_with fail
            refine (HF.out w2 L2.out).mono ?_
            rintro r w3 ⟨rfl, h3⟩
            rw [HFA.out]
            have B3 : Hid (Below w1.heap.size w1 w3) := B2.out.trans (h3.mono B2.out.size)
            clear h3
            go_wp2_with fail
            go_ret2
            exact ⟨by rw [HA.out]; rfl, B3.out⟩
          · obtain ⟨n, rfl⟩ := Int.eq_ofNat_of_zero_le (show 0 ≤ v by omega)
            have HFA := Lib.hid (fileAns_in (n := n) (by omega))
            have hne : ((fileS n).toList == s.toList) = false := by rw [beq_eq_false_iff_ne]; exact HN.out n (by omega)
            clear hout
            go_enter Tryd.func24, Tryd.ntmps24
            go_wp2_with fail
            refine HC.out.mono ?_
            rintro r w1 ⟨rfl, rfl⟩
            rw [HCB.out]
            go_wp2_with fail
            refine HP.out.mono ?_
            rintro r w2 ⟨rfl, h2⟩
            have B2 := Lib.hid h2
            have L2 := Lib.hid (HL.out.below h2)
            clear h2
            go_wp2_with fail
            refine (HF.out w2 L2.out).mono ?_
            rintro r w3 ⟨rfl, h3⟩
            rw [HFA.out]
            have B3 : Hid (Below w1.heap.size w1 w3) := B2.out.trans (h3.mono B2.out.size)
            clear h3
            go_wp2_with fail
            go_ret2
            exact ⟨by rw [HA.out]; rfl, B3.out⟩
        | _ =>
          have HP := Lib.hid (p64_bad (cutS s) (by omega) (fun v hv => by rw [hp] at hv; cases hv) w HE.out)
          clear hp
          go_enter Tryd.func24, Tryd.ntmps24
          go_wp2_with fail
          refine HC.out.mono ?_
          rintro r w1 ⟨rfl, rfl⟩
          rw [HCB.out]
          go_wp2_with fail
          refine HP.out.mono ?_
          rintro r w2 ⟨v, N, rfl, h2⟩
          have B2 := Lib.hid h2
          clear h2
          go_wp2_with fail
          go_ret2
          exact ⟨by rw [HA.out]; rfl, B2.out⟩
      · go_enter Tryd.func24, Tryd.ntmps24
        go_wp2_with fail
        refine HC.out.mono ?_
        rintro r w1 ⟨rfl, rfl⟩
        rw [HCB.out]
        have h20' : (((cutS s).size : Int) != 20) = true := by rw [bne_iff_ne]; omega
        go_wp2_with fail
        go_ret2
        exact ⟨by rw [HA.out]; rfl, Below.refl _ _⟩

set_option maxRecDepth 100000 in
set_option maxHeartbeats 2000000 in
theorem runfile_any : Calls Tryd.prog 25 #[.string s] w fun r w' => r = .returned (ufAns s) ∧ Below w.heap.size w w' := by
  have hsd := size_data s
  by_cases h24 : s.size = 24
  · by_cases hlog : s.data.toList.drop 20 = logB
    · have ht : ((s.extract 20 24).toList == [46, 108, 111, 103]) = true := by rw [← h24, extract_to, hlog]; rfl
      have HN := Lib.hid (show Calls Tryd.prog 35 #[.string (s.extract 0 20), .int .i64 0, .int .i64 20, .int .i64 4611686018427387904] w fun r w' => r = .returned (numAns (s.data.toList.take 20) 20 4611686018427387904) ∧ Below w.heap.size w w' by
        have h := number_any (s.extract 0 20) w 0 20 4611686018427387904 (by simp; omega) (Nat.zero_le _) (by decide) (by decide) (by decide) (by decide)
        rw [List.drop_zero] at h
        have e : (s.extract 0 20).data.toList = s.data.toList.take 20 := by rw [← Lib.toList_data, Lib.extract_toList]; rfl
        rw [e] at h
        exact h)
      cases hr : refNum 4611686018427387904 0 (s.data.toList.take 20) with
      | none =>
        have HX := Lib.hid (show numAns (s.data.toList.take 20) 20 4611686018427387904 = .tuple #[.int .i64 0, .bool false] by unfold numAns; rw [hr])
        have HA := Lib.hid (ufAns_none (s := s) (by unfold ufN; rw [hr]))
        clear hr hlog hsd
        go_enter Tryd.func25, Tryd.ntmps25
        go_wp2_with fail
        refine HN.out.mono ?_
        rintro r w2 ⟨rfl, h2⟩
        rw [HX.out]
        have B2 := Lib.hid h2
        clear h2
        go_wp2_with fail
        go_ret2
        exact ⟨by rw [HA.out]; rfl, B2.out⟩
      | some n =>
        by_cases hd : s.data.toList.take 20 = dec n 20
        · have HX := Lib.hid (show numAns (s.data.toList.take 20) 20 4611686018427387904 = .tuple #[.int .i64 (n : Int), .bool true] by unfold numAns; rw [hr, hd]; simp)
          have HA := Lib.hid (ufAns_some (s := s) (n := n) (by unfold ufN; rw [hr]; simp only; rw [if_pos ((logB_list s hlog n).2 hd)]))
          clear hr hlog hsd hd
          go_enter Tryd.func25, Tryd.ntmps25
          go_wp2_with fail
          refine HN.out.mono ?_
          rintro r w2 ⟨rfl, h2⟩
          rw [HX.out]
          have B2 := Lib.hid h2
          clear h2
          go_wp2_with fail
          go_ret2
          exact ⟨by rw [HA.out]; rfl, B2.out⟩
        · have HX := Lib.hid (show numAns (s.data.toList.take 20) 20 4611686018427387904 = .tuple #[.int .i64 (n : Int), .bool false] by unfold numAns; rw [hr]; simp [hd])
          have HA := Lib.hid (ufAns_none (s := s) (by unfold ufN; rw [hr]; simp only; rw [if_neg (fun h => hd ((logB_list s hlog n).1 h))]))
          clear hr hlog hsd hd
          go_enter Tryd.func25, Tryd.ntmps25
          go_wp2_with fail
          refine HN.out.mono ?_
          rintro r w2 ⟨rfl, h2⟩
          rw [HX.out]
          have B2 := Lib.hid h2
          clear h2
          go_wp2_with fail
          go_ret2
          exact ⟨by rw [HA.out]; rfl, B2.out⟩
    · have ht : ((s.extract 20 24).toList == [46, 108, 111, 103]) = false := by rw [← h24, extract_to, beq_eq_false_iff_ne]; exact hlog
      have HA := Lib.hid (ufAns_none (s := s) (by
        cases hn : ufN s with
        | none => rfl
        | some n =>
          obtain ⟨h1, rfl⟩ := uf_some hn
          exact absurd (by rw [fileS_data, List.drop_left' (dec20 h1)]) hlog))
      clear hlog hsd
      go_enter Tryd.func25, Tryd.ntmps25
      go_wp2_with fail
      go_ret2
      exact ⟨by rw [HA.out]; rfl, Below.refl _ _⟩
  · have h24' : ((s.size : Int) != 24) = true := by rw [bne_iff_ne]; omega
    have HA := Lib.hid (ufAns_none (s := s) (by
      cases hn : ufN s with
      | none => rfl
      | some n =>
        obtain ⟨h1, rfl⟩ := uf_some hn
        exact absurd (fileS_size h1) h24))
    clear hsd
    go_enter Tryd.func25, Tryd.ntmps25
    go_wp2_with fail
    go_ret2
    exact ⟨by rw [HA.out]; rfl, Below.refl _ _⟩
end
end Go.Proofs.YtjiblegnknhghaaDoor
