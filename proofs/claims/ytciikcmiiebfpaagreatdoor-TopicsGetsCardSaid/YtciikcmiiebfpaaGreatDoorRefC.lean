/- The reference's Check of a configuration; Find. -/
import Derived.Test.YtciikcmiiebfpaaGreatDoorTopC
import Derived.Test.YtciikcmiiebfpaaGreatDoorRefE
namespace Go.Proofs.YtciikcmiiebfpaaGreatDoor
open Go Go.RowKit Go.Maps Go.Proofs.YtciikcmiiebfpaaGreatDoorW.PrintWords Go.Proofs.YtciikcmiiebfpaaGreatDoor.PTopicsGets Go.Proofs.YtciikcmiiebfpaaGreatDoorW.PrintMore
set_option linter.unusedVariables false
set_option linter.unusedSimpArgs false

set_option maxRecDepth 100000 in
set_option maxHeartbeats 2000000 in
theorem rcheck_any (w : World) (A : Option Addr) (n c : Nat) (cs : List Conf) (h : CRow w A n cs) (hnc : n ≤ c) (hn : n ≤ 9223372036854775807) (hok : ∀ x ∈ cs, x.nm.size ≤ 140737488351232) :
    Calls Tryz.prog 21 #[.slice A n c] w fun r w' => r = .returned (.int .i64 (checkE cs)) ∧ Below w.heap.size w w' := by
  have HR := Lib.hid h
  have HOK := Lib.hid hok
  have HN : Hid (n = cs.length) := h.1
  clear h hok
  by_cases h8 : 8 < n
  · have HE : Hid (checkE cs = 9) := by show _ = _; unfold checkE; rw [if_pos (by rw [← HN.out]; exact h8)]
    go_enter Tryz.func21, Tryz.ntmps21
    go_wp2_with fail
    go_ret
    exact ⟨by rw [HE.out]; rfl, Below.refl _ _⟩
  have HE : Hid (checkE cs = checkL [] cs) := by show _ = _; unfold checkE; rw [if_neg (by rw [← HN.out]; exact h8)]
  go_enter Tryz.func21, Tryz.ntmps21
  go_wp2_with fail
  go_loopw [3, 4, 5, 6] (fun i _ _ _ wr => ∃ j : Nat, j ≤ n ∧ i = .int .i64 j ∧ Hid (Below w.heap.size w wr) ∧ Hid (checkE cs = checkL (cs.take j) (cs.drop j))) (fun i _ _ _ _ => n - (intOf i).toNat)
  case atStart => exact ⟨0, Nat.zero_le _, rfl, Below.refl _ _, HE.out⟩
  case round =>
    clear HE
    obtain ⟨j, hj, rfl, HB, HE⟩ := hrel
    by_cases hjn : j < n
    · obtain ⟨x, hx⟩ : ∃ x, cs[j]? = some x := ⟨_, List.getElem?_eq_getElem (by have := HN.out; omega)⟩
      obtain ⟨b, o, rfl, hbl0, hc0, hc1⟩ := HR.out.2 j x hx
      have hbl := Nat.lt_of_lt_of_le hbl0 HB.out.size
      have k0 := (HB.out.cell (p := ⟨b, o + j * 2, none⟩) hbl0).trans hc0
      have k1 := (HB.out.cell (p := ⟨b, o + j * 2 + 1, none⟩) hbl0).trans hc1
      have hxs := HOK.out x (List.mem_of_getElem? hx)
      have hst := checkL_step hx
      rw [← HE.out] at hst
      have HST := Lib.hid hst
      have HT := Lib.hid (Lb.rtopic_any x.nm wr hxs)
      have HXS := Lib.hid hxs
      have HBL0 := Lib.hid hbl0
      have HC0 := Lib.hid hc0
      clear hbl0 hc0 hc1 hx hst hxs
      obtain ⟨nm, pt⟩ := x
      dsimp only at k0 k1 HT HXS HC0
      by_cases ht : Lb.topicE nm = 0
      · rw [ht] at HT
        by_cases hp : pt < 1 ∨ 16 < pt
        · have HA : Hid (checkE cs = 3) := by show _ = _; rw [HST.out, checkAt_pt ht hp, if_pos (by decide)]
          rcases hp with hp | hp
          · go_wp2_with fail
            refine HT.out.mono ?_
            rintro r w2 ⟨rfl, rfl⟩
            go_wp2_with fail
            go_ret
            exact ⟨by rw [HA.out]; rfl, HB.out⟩
          · have hp1 : ¬ pt < 1 := by omega
            go_wp2_with fail
            refine HT.out.mono ?_
            rintro r w2 ⟨rfl, rfl⟩
            go_wp2_with fail
            go_ret
            exact ⟨by rw [HA.out]; rfl, HB.out⟩
        · have hp1 : ¬ pt < 1 := by omega
          have hp2 : ¬ 16 < pt := by omega
          go_wp2_with fail
          refine HT.out.mono ?_
          rintro r w2 ⟨rfl, rfl⟩
          go_wp2_with fail
          have HAK := Lib.hid (checkAt_ok (pre := cs.take j) (c := ⟨nm, pt⟩) ht hp)
          clear k1 k0 HT hbl
          have HJ : Hid (j < n) := hjn
          go_loopw [5] (fun jj wx => ∃ q : Nat, q ≤ j ∧ jj = .int .i64 q ∧ Hid (Below w.heap.size w wx) ∧ Hid ((cs.take q).any (fun o => o.nm.toList == nm.toList) = false)) (fun jj _ => j - (intOf jj).toNat)
          case atStart => exact ⟨0, Nat.zero_le _, rfl, HB.out, by show _ = _; rw [List.take_zero]; rfl⟩
          case round =>
            clear HB
            obtain ⟨q, hq, rfl, HB, HQ⟩ := hrel
            have hbl := Nat.lt_of_lt_of_le HBL0.out HB.out.size
            have k0 := (HB.out.cell (p := ⟨b, o + j * 2, none⟩) HBL0.out).trans HC0.out
            by_cases hqj : q < j
            · obtain ⟨y, hy⟩ : ∃ y, cs[q]? = some y := ⟨_, List.getElem?_eq_getElem (by have := HN.out; have := HJ.out; omega)⟩
              obtain ⟨b', o', e, hbl1, hd0, hd1⟩ := HR.out.2 q y hy
              injection e with e
              injection e with e1 e2 e3
              subst e1 e2
              have y0 := (HB.out.cell (p := ⟨b, o + q * 2, none⟩) hbl1).trans hd0
              have HT2 : Hid ((cs.take (q + 1)).any (fun o => o.nm.toList == nm.toList) = (y.nm.toList == nm.toList)) := by show _ = _; rw [List.take_add_one, hy, List.any_append, HQ.out]; simp
              have HM : Hid ((y.nm.toList == nm.toList) = true → (cs.take j).any (fun o => o.nm.toList == nm.toList) = true) := fun hh => List.any_eq_true.2 ⟨y, List.mem_of_getElem? (show (cs.take j)[q]? = some y by rw [List.getElem?_take, if_pos hqj]; exact hy), hh⟩
              clear hbl1 hd0 hd1 hy e3
              obtain ⟨ynm, ypt⟩ := y
              dsimp only at y0 HT2 HM
              obtain ⟨v, hv⟩ : ∃ v, (ynm.toList == nm.toList) = v := ⟨_, rfl⟩
              rw [hv] at HT2 HM
              cases v with
              | true =>
                have HA : Hid (checkE cs = 184) := by show _ = _; rw [HST.out, HAK.out]; dsimp only; rw [if_pos (HM.out (by first | trivial | rfl))]; rfl
                go_wp2_with fail
                go_quiet (fail)
                go_wp2_with fail
                go_ret
                exact ⟨by rw [HA.out]; rfl, HB.out.trans ((pw_below_drewN (Below.refl _ _) _).mono HB.out.size)⟩
              | false =>
                go_wp2_with fail
                go_quiet (fail)
                go_wp2_with fail
                go_roundw
                case rel => exact ⟨q + 1, by omega, by go_num, HB.out.trans ((pw_below_drewN (Below.refl _ _) _).mono HB.out.size), HT2.out⟩
                case measure => simp [intOf]; omega
            · obtain rfl : q = j := by omega
              have HAK2 : Hid (checkAt (cs.take q) ⟨nm, pt⟩ = if (cs.take q).any (fun o => Lb.clashB o.nm nm) then 231 else 0) := by show _ = _; rw [HAK.out]; dsimp only; rw [HQ.out]; rfl
              clear HAK HQ k0 hbl
              go_wp2_with fail
              go_loopw [6] (fun jj wx => ∃ z : Nat, z ≤ q ∧ jj = .int .i64 z ∧ Hid (Below w.heap.size w wx) ∧ Hid ((cs.take z).any (fun o => Lb.clashB o.nm nm) = false)) (fun jj _ => q - (intOf jj).toNat)
              case atStart => exact ⟨0, Nat.zero_le _, rfl, HB.out, by show _ = _; rw [List.take_zero]; rfl⟩
              case round =>
                clear HB
                obtain ⟨z, hz, rfl, HB, HZ⟩ := hrel
                have hbl := Nat.lt_of_lt_of_le HBL0.out HB.out.size
                have k0 := (HB.out.cell (p := ⟨b, o + q * 2, none⟩) HBL0.out).trans HC0.out
                by_cases hzq : z < q
                · obtain ⟨y, hy⟩ : ∃ y, cs[z]? = some y := ⟨_, List.getElem?_eq_getElem (by have := HN.out; have := HJ.out; omega)⟩
                  obtain ⟨b', o', e, hbl1, hd0, hd1⟩ := HR.out.2 z y hy
                  injection e with e
                  injection e with e1 e2 e3
                  subst e1 e2
                  have y0 := (HB.out.cell (p := ⟨b, o + z * 2, none⟩) hbl1).trans hd0
                  have HT2 : Hid ((cs.take (z + 1)).any (fun o => Lb.clashB o.nm nm) = Lb.clashB y.nm nm) := by show _ = _; rw [List.take_add_one, hy, List.any_append, HZ.out]; simp
                  have HM : Hid (Lb.clashB y.nm nm = true → (cs.take q).any (fun o => Lb.clashB o.nm nm) = true) := fun hh => List.any_eq_true.2 ⟨y, List.mem_of_getElem? (show (cs.take q)[z]? = some y by rw [List.getElem?_take, if_pos hzq]; exact hy), hh⟩
                  have HCL := Lib.hid (fun (W : World) => Lb.rclash_any y.nm nm W (HOK.out y (List.mem_of_getElem? hy)) HXS.out)
                  clear hbl1 hd0 hd1 hy e3
                  obtain ⟨ynm, ypt⟩ := y
                  dsimp only at y0 HT2 HM HCL
                  obtain ⟨v, hv⟩ : ∃ v, Lb.clashB ynm nm = v := ⟨_, rfl⟩
                  rw [hv] at HT2 HM HCL
                  cases v with
                  | true =>
                    have HA : Hid (checkE cs = 231) := by show _ = _; rw [HST.out, HAK2.out, if_pos (HM.out (by first | trivial | rfl))]; rfl
                    go_wp2_with fail
                    go_region_with (go_at_call 52; refine (HCL.out _).mono ?_; rintro r w9 ⟨rfl, hb9⟩)
                    all_goals
                      have hb10 : Below w.heap.size w w9 := HB.out.drew.trans (hb9.mono HB.out.drew.size)
                      go_wp2_with fail
                      go_ret
                      exact ⟨by rw [HA.out]; rfl, hb10⟩
                  | false =>
                    go_wp2_with fail
                    go_region_with (go_at_call 52; refine (HCL.out _).mono ?_; rintro r w9 ⟨rfl, hb9⟩)
                    all_goals
                      have HB10 : Hid (Below w.heap.size w w9) := HB.out.drew.trans (hb9.mono HB.out.drew.size)
                      clear hb9
                      go_wp2_with fail
                      go_roundw
                      case rel => exact ⟨z + 1, by omega, by go_num, HB10.out, HT2.out⟩
                      case measure => simp [intOf]; omega
                · obtain rfl : z = q := by omega
                  have HA : Hid (checkE cs = checkL (cs.take (z + 1)) (cs.drop (z + 1))) := by show _ = _; rw [HST.out, HAK2.out, HZ.out]; rfl
                  go_wp2_with fail
                  go_roundw
                  case rel => exact ⟨z + 1, by omega, by go_num, HB.out, HA.out⟩
                  case measure => simp [intOf]; omega
      · have hne : (((Lb.topicE nm : Nat) : Int) != 0) = true := by rw [bne_iff_ne]; omega
        have HA : Hid (checkE cs = (Lb.topicE nm : Nat)) := by show _ = _; rw [HST.out, checkAt_topic ht, if_pos (by show ((Lb.topicE nm : Nat) : Int) ≠ 0; omega)]
        go_wp2_with fail
        refine HT.out.mono ?_
        rintro r w2 ⟨rfl, rfl⟩
        go_wp2_with fail
        go_ret
        exact ⟨by rw [HA.out]; rfl, HB.out⟩
    · obtain rfl : j = n := by omega
      have HST2 : Hid (checkE cs = 0) := by show _ = _; rw [HE.out, HN.out, List.drop_length]; rfl
      go_wp2_with fail
      go_ret
      exact ⟨by rw [HST2.out]; rfl, HB.out⟩
end Go.Proofs.YtciikcmiiebfpaaGreatDoor
