/- DiskSafe: the walk of the law. -/
import Derived.Test.YtkhopknpadncdaaSafeW
namespace Go.Proofs.Ytkhopknpadncdaa
open Go Go.RowKit Go.Maps Go.Proofs.YtkhopknpadncdaaW.PrintWords Go.Proofs.Ytkhopknpadncdaa.PDiskFails Go.Proofs.YtkhopknpadncdaaW.PrintMore
set_option linter.unusedVariables false

/-- Rows of bytes that came in. -/
def Adds (w : World) (A : Option Addr) (n : Nat) (adds : List (List Int)) : Prop :=
  n = adds.length ∧ ∀ i a, adds[i]? = some a → ∃ b o Ai ci, A = some ⟨b, o, none⟩ ∧ b < w.heap.size ∧ w.cell? ⟨b, o + i, none⟩ = some (.slice Ai a.length ci) ∧ a.length ≤ ci ∧ (Kd.int .u8).C w Ai a.length a
theorem Adds.below {w w' : World} {A : Option Addr} {n : Nat} {adds : List (List Int)} (h : Adds w A n adds) (hb : Below w.heap.size w w') : Adds w' A n adds := by
  refine ⟨h.1, fun i a hi => ?_⟩
  obtain ⟨b, o, Ai, ci, e, hl, hc, hq, hC⟩ := h.2 i a hi
  exact ⟨b, o, Ai, ci, e, Nat.lt_of_lt_of_le hl hb.size, (hb.cell (p := ⟨b, o + i, none⟩) hl).trans hc, hq, Kd.C_below hC hb⟩
theorem flat_step {L : List (List Int)} {j : Nat} {a : List Int} (h : L[j]? = some a) : (L.take (j + 1)).flatten = (L.take j).flatten ++ a := by
  rw [List.take_add_one, h, List.flatten_append]
  simp
theorem adds_step {L : List (List Int)} {j : Nat} {a : List Int} (h : L[j]? = some a) : (L.take (j + 1)).map addC = (L.take j).map addC ++ [addC a] := by
  rw [List.take_add_one, h, List.map_append]
  rfl
theorem units_adds : ∀ As : List (List Int), units (As.map addC) = As.flatten.length
  | [] => rfl
  | a :: r => by
    have := units_adds r
    unfold units at this ⊢
    rw [List.map_cons, List.map_cons, List.sum_cons, this, List.flatten_cons, List.length_append]
    show (a.length : Int) + _ = _
    omega
theorem kept_cut {s L : List Int} {As : List (List Int)} {nL n0 : Nat} (h : L = s ++ As.flatten) (h0 : n0 = s.length) (hL : nL = L.length) (u c : Int) {T : Nat} (hT : (u ≤ (nL : Int) - n0 ∧ T = n0 + u.toNat) ∨ ((nL : Int) - n0 < u ∧ T = c.toNat)) :
    after s (As.map addC ++ [⟨true, c, []⟩]) u = L.take T := by
  have hl : nL = n0 + As.flatten.length := by rw [hL, h, List.length_append, h0]
  rw [afterS_cut, ← h, ← h0]
  rcases hT with ⟨h1, rfl⟩ | ⟨h1, rfl⟩
  · rw [if_pos (by omega)]
  · rw [if_neg (by omega)]
theorem kept_plain {s L : List Int} {As : List (List Int)} {nL n0 : Nat} (h : L = s ++ As.flatten) (h0 : n0 = s.length) (hL : nL = L.length) (u : Int) {T : Nat} (hT : T = n0 + u.toNat ∨ (T = nL ∧ (nL : Int) - n0 ≤ u)) : after s (As.map addC) u = L.take T := by
  have hl : nL = n0 + As.flatten.length := by rw [hL, h, List.length_append, h0]
  rw [afterS_plain, ← h, ← h0]
  rcases hT with rfl | ⟨rfl, h1⟩
  · rfl
  · rw [List.take_of_length_le (by omega), List.take_of_length_le (by omega)]
set_option maxRecDepth 100000 in
set_option maxHeartbeats 8000000 in
theorem safeL_any (w : World) (A0 A1 : Option Addr) (n0 c0 n1 c1 : Nat) (s : List Int) (adds : List (List Int)) (cut keep : Int) (hs : (Kd.int .u8).C w A0 n0 s) (hc0 : n0 ≤ c0) (hb0 : Byt s) (ha : Adds w A1 n1 adds) (hn1 : n1 ≤ 100000000000)
    (hab : ∀ a ∈ adds, Byt a ∧ a.length ≤ big) (hs0 : n0 ≤ big) (hk : keep ≤ 9223372036854775807) (hk2 : -9223372036854775808 ≤ keep) :
    Calls Try.prog 5 #[.slice A0 n0 c0, .slice A1 n1 c1, .int .i64 cut, .int .i64 keep] w fun e w' => e = .returned (.bool true) ∧ Below w.heap.size w w' := by
  have HA := Lib.hid (alive_any w)
  have HS := Lib.hid hs
  have HADDS := Lib.hid ha
  have HAB := Lib.hid hab
  have HB0 := Lib.hid hb0
  have hsl : n0 = s.length := (Kd.C_len hs).symm
  have HSL := Lib.hid hsl
  have HAL : Hid (n1 = adds.length) := ha.1
  have hsf : Hid (sF.size ≤ maxLen) := by show _ ≤ _; decide
  have hfd : sF.data.toList = [102] := rfl
  have HFD := Lib.hid hfd
  have HE0 : Hid (newD 16777216 = ⟨[], 16777216, [], 0, false⟩) := rfl
  clear hs ha hab hb0 hsl hfd
  by_cases hbig : 1048576 < (n0 : Int)
  · go_enter Try.func5, Try.ntmps5
    go_wp2_with (first
      | (go_at_call 7; refine HA.out.mono ?_; rintro e w1 ⟨rfl, hb⟩; have HB1 := Lib.hid hb; clear hb)
      | (go_at_call 8; refine (al_new HB1.out 16777216).mono ?_; rintro e w2 ⟨d, rfl, h⟩; have H2 := Lib.hid h; clear h))
    go_ret
    exact ⟨rfl, H2.out.bl⟩
  · have hbn : (n0 : Int) ≤ 1048576 := by omega
    have hbn2 : n0 ≤ 1048576 := by omega
    have hz0 : Hid (s.length ≤ 1048576) := by show _ ≤ _; rw [← HSL.out]; exact hbn2
    clear hbig
    go_enter Try.func5, Try.ntmps5
    go_upto_region 8 with (first
      | (go_at_call 7; refine HA.out.mono ?_; rintro e w1 ⟨rfl, hb⟩; have HB1 := Lib.hid hb; clear hb)
      | (go_at_call 8; refine (al_new HB1.out 16777216).mono ?_; rintro e w2 ⟨d, rfl, h⟩; have H2 := Lib.hid h; clear h)
      | (go_at_call 28; refine (al_create H2.out (by decide) sF hsf.out).mono ?_; rw [HE0.out, HFD.out, fD_create]; rintro e w3 ⟨rfl, h⟩; have H3 : Hid (Al w w3 d (fD [] [] [] 1) 1) := h; clear h)
      | (go_at_call 29; refine (copyS_any A0 n0 c0 s _ (Kd.C_below HS.out H3.out.bl) hc0 (by rw [← HSL.out]; exact hs0)).mono ?_; rintro e w4 ⟨A4, q4, rfl, hr, hb⟩; have HR4 := Lib.hid hr; have HB4 := Lib.hid hb; clear hr hb)
      | (go_at_call 10; refine (al_appendR H3.out (by decide) sF hsf.out HB4.out HR4.out HB0.out (by rw [← HSL.out]; exact hs0)).mono ?_; rw [HFD.out, fD_append [] [] s [] 1 (by have := hz0.out; simp; omega)]; rintro e w5 ⟨rfl, h⟩; have H5 : Hid (Al w w5 d (fD [] s [addC s] 2) 2) := h; clear h))
    go_upto_region 13 with (first
      | (go_at_call 30; refine (al_sync H5.out (by decide) sF hsf.out).mono ?_; rw [HFD.out, fD_sync]; rintro e w6 ⟨rfl, h⟩; have H6 : Hid (Al w w6 d (fD s s [] 3) 3) := h; clear h)
      | (go_at_call 29; refine (copyS_any A0 n0 c0 s _ (Kd.C_below HS.out H6.out.bl) hc0 (by rw [← HSL.out]; exact hs0)).mono ?_; rintro e w7 ⟨A7, q7, rfl, hr, hb⟩; have H7 : Hid (Bx w w7 d (fD s s [] 3) 3 (.slice A7 n0 q7) s) := H6.out.row hb hr; clear hr hb))
    go_wp2_with fail
    go_loopw [13, 14, 16, 61] (fun va tot _ i wr => ∃ (j : Nat) (L : List Int), j ≤ n1 ∧ i = .int .i64 j ∧ L.length ≤ 2097152 ∧ tot = .int .i64 (L.length : Int) ∧ Hid (L = s ++ (adds.take j).flatten) ∧ Hid (Bx w wr d (fD s L ((adds.take j).map addC) (3 + j)) (3 + j) va L)) (fun _ _ _ i _ => n1 - (intOf i).toNat)
    case atStart => exact ⟨0, s, Nat.zero_le _, rfl, by have := hz0.out; omega, by rw [← HSL.out], by show _ = _; simp, H7.out⟩
    case round =>
      clear H7
      obtain ⟨j, L, hj, rfl, hL, rfl, HL, HX⟩ := hrel
      obtain ⟨A13, q13, rfl⟩ := Kd.R_slice HX.out.row
      obtain ⟨nL, hnL⟩ : ∃ nL, nL = L.length := ⟨_, rfl⟩
      rw [← hnL] at HX hL ⊢
      have HNL := Lib.hid hnL
      clear hnL
      by_cases hjn : j < n1
      · obtain ⟨a, haj⟩ : ∃ a, adds[j]? = some a := ⟨_, List.getElem?_eq_getElem (by have := HAL.out; omega)⟩
        obtain ⟨b, o, Ai, ci, rfl, hbl0, hcell0, hai, hCa⟩ := HADDS.out.2 j a haj
        have hbl := Nat.lt_of_lt_of_le hbl0 HX.out.bl.size
        have hcell := (HX.out.bl.cell (p := ⟨b, o + j, none⟩) hbl0).trans hcell0
        clear hbl0 hcell0
        obtain ⟨hby, habg⟩ := HAB.out a (List.mem_of_getElem? haj)
        have HBY := Lib.hid hby
        have HCA := Lib.hid hCa
        have HFS := Lib.hid (flat_step haj)
        have HAS := Lib.hid (adds_step haj)
        obtain ⟨ma, hma⟩ : ∃ ma, ma = a.length := ⟨_, rfl⟩
        rw [← hma] at hcell hai HCA habg
        have HMA := Lib.hid hma
        have habg2 : ma ≤ 140737488351232 := by unfold big at habg; exact habg
        clear haj hby hCa hma
        by_cases htot : 2097152 < (nL : Int) + (ma : Int)
        · go_wp2_with fail
          go_ret
          exact ⟨rfl, HX.out.bl⟩
        · have htot2 : nL + ma ≤ 2097152 := by omega
          have HAP : Hid (stepD (appendD a [102]) (partD a [102]) (fD s L ((adds.take j).map addC) (3 + (j : Int))) = (fD s (L ++ a) ((adds.take j).map addC ++ [addC a]) (3 + (j : Int) + 1), 0)) := fD_append s L a _ _ (by rw [← HNL.out, ← HMA.out]; omega)
          have HR13 : Hid ((Kd.int .u8).C wr A13 nL L ∧ nL ≤ q13) := by have h := Kd.R_reads' HX.out.row; rw [← HNL.out] at h; exact ⟨h.2.2, h.2.1⟩
          go_wp2_with (first
            | (go_at_call 29; refine (copyS_any Ai ma ci a _ (Kd.C_below HCA.out HX.out.bl) hai (by rw [← HMA.out]; exact habg)).mono ?_; rintro r w8 ⟨A8, q8, rfl, hr, hb⟩; have HR8 := Lib.hid hr; have HB8 := Lib.hid hb; clear hr hb)
            | (go_at_call 10; refine (bx_append HX.out (by omega) sF hsf.out HB8.out HR8.out HBY.out (by rw [← HMA.out]; exact habg)).mono ?_; rw [HFD.out, HAP.out]; rintro r w9 ⟨rfl, h⟩; have H9 : Hid (Bx w w9 d (fD s (L ++ a) ((adds.take j).map addC ++ [addC a]) (3 + (j : Int) + 1)) (3 + j + 1) (.slice A13 nL q13) L) := h; clear h)
            | (go_at_call 31; refine (catS_any A13 Ai nL q13 ma ci L a _ (by have h := Kd.R_reads' H9.out.row; rw [← HNL.out] at h; exact h.2.2) HR13.out.2 (Kd.C_below HCA.out H9.out.bl) hai (by rw [← HNL.out, ← HMA.out]; unfold big; omega)).mono ?_; rintro r w10 ⟨A10, q10, rfl, hr, hb⟩; have H10 : Hid (Bx w w10 d (fD s (L ++ a) ((adds.take j).map addC ++ [addC a]) (3 + (j : Int) + 1)) (3 + j + 1) (.slice A10 (nL + ma) q10) (L ++ a)) := H9.out.al.row hb hr; clear hr hb))
          go_roundw
          case rel => exact ⟨j + 1, L ++ a, by omega, by go_num, by rw [List.length_append, ← HNL.out, ← HMA.out]; exact htot2, by rw [List.length_append, ← HNL.out, ← HMA.out]; go_num, by show _ = _; rw [HFS.out, HL.out, List.append_assoc], by rw [HAS.out]; exact H10.out⟩
          case measure => simp [intOf]; omega
      · obtain rfl : j = n1 := by omega
        have HLF : Hid (L = s ++ adds.flatten) := by show _ = _; rw [HL.out, HAL.out, List.take_length]
        rw [show adds.take j = adds by rw [HAL.out]; exact List.take_length] at HX
        obtain ⟨cs, hcs⟩ : ∃ cs, cs = adds.map addC := ⟨_, rfl⟩
        rw [← hcs] at HX
        have HCS := Lib.hid hcs
        have HUN : Hid (units cs = (nL : Int) - n0) := by
          show _ = _
          rw [HCS.out, units_adds, HNL.out, HLF.out, HSL.out, List.length_append]
          omega
        have hnn : n0 ≤ nL := by have h1 := HNL.out; have h2 := HLF.out; have h3 := HSL.out; rw [h2, List.length_append] at h1; omega
        clear hcs HADDS HAB
        by_cases hcut : 0 ≤ cut ∧ cut ≤ (nL : Int)
        · obtain ⟨hc1, hc2⟩ := hcut
          have HCU : Hid (stepD (cutD cut [102]) (fun k _ => k) (fD s L cs (3 + (j : Int))) = (fD s (L.take cut.toNat) (cs ++ [⟨true, cut, []⟩]) (3 + (j : Int) + 1), 0)) := fD_cut s L cs _ cut hc1 (by rw [← HNL.out]; exact hc2)
          go_upto_region 28 with (go_at_call 32; refine (bx_cut HX.out (by omega) sF hsf.out cut).mono ?_; rw [HFD.out, HCU.out]; rintro r w9 ⟨rfl, h⟩; have H9 : Hid (Bx w w9 d (fD s (L.take cut.toNat) (cs ++ [⟨true, cut, []⟩]) (3 + (j : Int) + 1)) (3 + j + 1) (.slice A13 nL q13) L) := h; clear h)
          have HUV : Hid (unitsD (fD s (L.take cut.toNat) (cs ++ [⟨true, cut, []⟩]) (3 + (j : Int) + 1)) [102] = (nL : Int) - n0 + 1) := by
            show units (cs ++ [⟨true, cut, []⟩]) = _
            rw [units_app, HUN.out]
            rfl
          have HUB : Hid (unitsD (fD s (L.take cut.toNat) (cs ++ [⟨true, cut, []⟩]) (3 + (j : Int) + 1)) [102] ≤ 9223372036854775807) := by show _ ≤ _; rw [HUV.out]; omega
          have HK := fun T (hT : (keep ≤ (nL : Int) - n0 ∧ T = n0 + keep.toNat) ∨ ((nL : Int) - n0 < keep ∧ T = cut.toNat)) => kept_cut HLF.out HSL.out HNL.out keep cut (T := T) hT
          rw [← HCS.out] at HK
          rcases (by omega : keep ≤ 0 ∨ (0 < keep ∧ keep < (nL : Int) - n0) ∨ (0 < keep ∧ keep ≤ (nL : Int) - n0 ∧ (nL : Int) - n0 ≤ keep) ∨ (0 < keep ∧ (nL : Int) - n0 < keep)) with hq | ⟨hq, hq2⟩ | ⟨hq, hq2, hq3⟩ | ⟨hq, hq2⟩
          · obtain ⟨T, u, hTL, hTu, HT, hue⟩ : ∃ (T : Nat) (u : Int), T ≤ nL ∧ (T : Int) = u ∧ Hid (after s (cs ++ [⟨true, cut, []⟩]) keep = L.take T) ∧ u = (n0 : Int) := ⟨n0, _, by omega, by omega, Lib.hid (HK (n0) (.inl ⟨by omega, by omega⟩)), rfl⟩
            clear HK
            obtain ⟨t, ht⟩ : ∃ t, t = L.take T := ⟨_, rfl⟩
            have htl : t.length = T := by rw [ht, List.length_take, ← HNL.out]; omega
            have HON : Hid (onD [keep] (fD s (L.take cut.toNat) (cs ++ [⟨true, cut, []⟩]) (3 + (j : Int) + 1)) = fD t t [] ((3 + (j : Int) + 1))) := by show _ = _; rw [fD_on, HT.out, ← ht]
            have HR0 : Hid (readD (fD t t [] ((3 + (j : Int) + 1))) [102] 0 0 = ([], 0)) := by show _ = _; have := fD_read t t [] ((3 + (j : Int) + 1)) 0 (Nat.zero_le _); simpa using this
            have HR1 : Hid (readD (fD t t [] ((3 + (j : Int) + 1))) [102] 0 u = (t, 0)) := by
              have := fD_read t t [] ((3 + (j : Int) + 1)) T (by omega)
              rw [hTu, List.take_of_length_le (by omega)] at this
              exact this
            have HSZ : Hid (sizeD (fD t t [] ((3 + (j : Int) + 1))) [102] = (u, 0)) := by show _ = _; rw [fD_size, htl, hTu]
            have HTL := Lib.hid htl
            have HTT := Lib.hid ht
            have HTU := Lib.hid hTu
            have HUB2 : Hid (u ≤ 9223372036854775807) := by show _ ≤ _; omega
            clear ht htl
            subst hue
            clear hTu
            go_upto_region 30 with (go_at_call 33; refine (bx_units H9.out (by omega) sF hsf.out (by rw [HFD.out]; exact HUB.out)).mono ?_; rw [HFD.out, HUV.out]; rintro r w10 ⟨rfl, h⟩; have H10 := Lib.hid h; clear h)
            go_upto_region 33 with (first
              | (go_at_call 34; refine (bx_on H10.out (by omega) ((Below.refl _ _).alloc (Nat.le_refl _) _) _ _ _ [keep] (keep_lit keep hk)).mono ?_; rw [HON.out]; rintro r w11 ⟨rfl, h⟩; have H11 := Lib.hid h; clear h)
              | (go_at_call 26; refine (al_read H11.out.al sF hsf.out 0 0 (by decide) (by decide)).mono ?_; rw [HFD.out, HR0.out]; rintro r w12 ⟨v12, rfl, hv, hb⟩; obtain ⟨A12, q12, rfl⟩ : ∃ A q, v12 = .slice A 0 q := Kd.R_slice hv; have H12 := Lib.hid (H11.out.below hb); clear hv hb)
              | (go_at_call 35; refine (al_size H12.out.al sF hsf.out).mono ?_; rw [HFD.out, HSZ.out]; rintro r w13 ⟨rfl, hw⟩; obtain rfl := hw.symm; clear hw))
            go_upto_region 42 with (go_at_call 33; refine (bx_units H12.out (by omega) sF hsf.out (by rw [HFD.out]; exact (by decide : (0 : Int) ≤ 9223372036854775807))).mono ?_; rw [HFD.out, show unitsD (fD t t [] ((3 + (j : Int) + 1))) [102] = 0 from rfl]; rintro r w14 ⟨rfl, h⟩; have H14 := Lib.hid h; clear h)
            have hnq := (Kd.R_reads' H14.out.row)
            have HNQ : Hid (nL ≤ q13) := hnq.2.1
            clear hnq
            go_wp2_with (first
              | (go_at_call 26; refine (al_read H14.out.al sF hsf.out 0 _ (by decide) HUB2.out).mono ?_; rw [HFD.out, HR1.out]; rintro r w15 ⟨v15, rfl, hv, hb⟩; obtain ⟨A15, q15, rfl⟩ : ∃ A q, v15 = .slice A T q := (by obtain ⟨A_, q_, e_⟩ := Kd.R_slice hv; exact ⟨A_, q_, by rw [← HTL.out]; exact e_⟩); have H15 := Lib.hid (H14.out.below hb); have HV15 := Lib.hid hv; clear hv hb)
              | (go_at_call 37; refine (pieceS_any A13 nL q13 L _ T _ HTU.out (by have h := (Kd.R_reads' H15.out.row); rw [← HNL.out] at h; exact h.2.2) HNQ.out (by rw [← HNL.out]; exact hTL) (by rw [← HNL.out]; unfold big; omega)).mono ?_; rintro r w16 ⟨A16, q16, rfl, hc16, hq16, hb⟩; have HC16 := Lib.hid hc16; have HB16 := Lib.hid hb; have HQ16 := Lib.hid hq16; clear hc16 hq16 hb)
              | (go_at_call 36; refine (sameS_any A15 A16 T q15 q16 (L.take T) _ (by have h := (Kd.R_reads' HV15.out); rw [HTL.out, HTT.out] at h; exact Kd.C_below h.2.2 HB16.out) (Kd.R_reads' HV15.out).2.1 HC16.out HQ16.out (by rw [List.length_take, ← HNL.out]; unfold big; omega)).mono ?_; rintro r w17 ⟨rfl, hb⟩; have H17 := Lib.hid ((H15.out.below HB16.out).below hb); clear hb))
            go_ret
            exact ⟨rfl, H17.out.bl⟩
          · obtain ⟨T, u, hTL, hTu, HT, hue⟩ : ∃ (T : Nat) (u : Int), T ≤ nL ∧ (T : Int) = u ∧ Hid (after s (cs ++ [⟨true, cut, []⟩]) keep = L.take T) ∧ u = (n0 : Int) + keep := ⟨n0 + keep.toNat, _, by omega, by omega, Lib.hid (HK (n0 + keep.toNat) (.inl ⟨by omega, rfl⟩)), rfl⟩
            clear HK
            obtain ⟨t, ht⟩ : ∃ t, t = L.take T := ⟨_, rfl⟩
            have htl : t.length = T := by rw [ht, List.length_take, ← HNL.out]; omega
            have HON : Hid (onD [keep] (fD s (L.take cut.toNat) (cs ++ [⟨true, cut, []⟩]) (3 + (j : Int) + 1)) = fD t t [] ((3 + (j : Int) + 1))) := by show _ = _; rw [fD_on, HT.out, ← ht]
            have HR0 : Hid (readD (fD t t [] ((3 + (j : Int) + 1))) [102] 0 0 = ([], 0)) := by show _ = _; have := fD_read t t [] ((3 + (j : Int) + 1)) 0 (Nat.zero_le _); simpa using this
            have HR1 : Hid (readD (fD t t [] ((3 + (j : Int) + 1))) [102] 0 u = (t, 0)) := by
              have := fD_read t t [] ((3 + (j : Int) + 1)) T (by omega)
              rw [hTu, List.take_of_length_le (by omega)] at this
              exact this
            have HSZ : Hid (sizeD (fD t t [] ((3 + (j : Int) + 1))) [102] = (u, 0)) := by show _ = _; rw [fD_size, htl, hTu]
            have HTL := Lib.hid htl
            have HTT := Lib.hid ht
            have HTU := Lib.hid hTu
            have HUB2 : Hid (u ≤ 9223372036854775807) := by show _ ≤ _; omega
            clear ht htl
            subst hue
            clear hTu
            go_upto_region 30 with (go_at_call 33; refine (bx_units H9.out (by omega) sF hsf.out (by rw [HFD.out]; exact HUB.out)).mono ?_; rw [HFD.out, HUV.out]; rintro r w10 ⟨rfl, h⟩; have H10 := Lib.hid h; clear h)
            go_upto_region 33 with (first
              | (go_at_call 34; refine (bx_on H10.out (by omega) ((Below.refl _ _).alloc (Nat.le_refl _) _) _ _ _ [keep] (keep_lit keep hk)).mono ?_; rw [HON.out]; rintro r w11 ⟨rfl, h⟩; have H11 := Lib.hid h; clear h)
              | (go_at_call 26; refine (al_read H11.out.al sF hsf.out 0 0 (by decide) (by decide)).mono ?_; rw [HFD.out, HR0.out]; rintro r w12 ⟨v12, rfl, hv, hb⟩; obtain ⟨A12, q12, rfl⟩ : ∃ A q, v12 = .slice A 0 q := Kd.R_slice hv; have H12 := Lib.hid (H11.out.below hb); clear hv hb)
              | (go_at_call 35; refine (al_size H12.out.al sF hsf.out).mono ?_; rw [HFD.out, HSZ.out]; rintro r w13 ⟨rfl, hw⟩; obtain rfl := hw.symm; clear hw))
            go_upto_region 42 with (go_at_call 33; refine (bx_units H12.out (by omega) sF hsf.out (by rw [HFD.out]; exact (by decide : (0 : Int) ≤ 9223372036854775807))).mono ?_; rw [HFD.out, show unitsD (fD t t [] ((3 + (j : Int) + 1))) [102] = 0 from rfl]; rintro r w14 ⟨rfl, h⟩; have H14 := Lib.hid h; clear h)
            have hnq := (Kd.R_reads' H14.out.row)
            have HNQ : Hid (nL ≤ q13) := hnq.2.1
            clear hnq
            go_wp2_with (first
              | (go_at_call 26; refine (al_read H14.out.al sF hsf.out 0 _ (by decide) HUB2.out).mono ?_; rw [HFD.out, HR1.out]; rintro r w15 ⟨v15, rfl, hv, hb⟩; obtain ⟨A15, q15, rfl⟩ : ∃ A q, v15 = .slice A T q := (by obtain ⟨A_, q_, e_⟩ := Kd.R_slice hv; exact ⟨A_, q_, by rw [← HTL.out]; exact e_⟩); have H15 := Lib.hid (H14.out.below hb); have HV15 := Lib.hid hv; clear hv hb)
              | (go_at_call 37; refine (pieceS_any A13 nL q13 L _ T _ HTU.out (by have h := (Kd.R_reads' H15.out.row); rw [← HNL.out] at h; exact h.2.2) HNQ.out (by rw [← HNL.out]; exact hTL) (by rw [← HNL.out]; unfold big; omega)).mono ?_; rintro r w16 ⟨A16, q16, rfl, hc16, hq16, hb⟩; have HC16 := Lib.hid hc16; have HB16 := Lib.hid hb; have HQ16 := Lib.hid hq16; clear hc16 hq16 hb)
              | (go_at_call 36; refine (sameS_any A15 A16 T q15 q16 (L.take T) _ (by have h := (Kd.R_reads' HV15.out); rw [HTL.out, HTT.out] at h; exact Kd.C_below h.2.2 HB16.out) (Kd.R_reads' HV15.out).2.1 HC16.out HQ16.out (by rw [List.length_take, ← HNL.out]; unfold big; omega)).mono ?_; rintro r w17 ⟨rfl, hb⟩; have H17 := Lib.hid ((H15.out.below HB16.out).below hb); clear hb))
            go_ret
            exact ⟨rfl, H17.out.bl⟩
          · obtain ⟨T, u, hTL, hTu, HT, hue⟩ : ∃ (T : Nat) (u : Int), T ≤ nL ∧ (T : Int) = u ∧ Hid (after s (cs ++ [⟨true, cut, []⟩]) keep = L.take T) ∧ u = (nL : Int) := ⟨nL, _, by omega, by omega, Lib.hid (HK (nL) (.inl ⟨by omega, by omega⟩)), rfl⟩
            clear HK
            obtain ⟨t, ht⟩ : ∃ t, t = L.take T := ⟨_, rfl⟩
            have htl : t.length = T := by rw [ht, List.length_take, ← HNL.out]; omega
            have HON : Hid (onD [keep] (fD s (L.take cut.toNat) (cs ++ [⟨true, cut, []⟩]) (3 + (j : Int) + 1)) = fD t t [] ((3 + (j : Int) + 1))) := by show _ = _; rw [fD_on, HT.out, ← ht]
            have HR0 : Hid (readD (fD t t [] ((3 + (j : Int) + 1))) [102] 0 0 = ([], 0)) := by show _ = _; have := fD_read t t [] ((3 + (j : Int) + 1)) 0 (Nat.zero_le _); simpa using this
            have HR1 : Hid (readD (fD t t [] ((3 + (j : Int) + 1))) [102] 0 u = (t, 0)) := by
              have := fD_read t t [] ((3 + (j : Int) + 1)) T (by omega)
              rw [hTu, List.take_of_length_le (by omega)] at this
              exact this
            have HSZ : Hid (sizeD (fD t t [] ((3 + (j : Int) + 1))) [102] = (u, 0)) := by show _ = _; rw [fD_size, htl, hTu]
            have HTL := Lib.hid htl
            have HTT := Lib.hid ht
            have HTU := Lib.hid hTu
            have HUB2 : Hid (u ≤ 9223372036854775807) := by show _ ≤ _; omega
            clear ht htl
            subst hue
            clear hTu
            go_upto_region 30 with (go_at_call 33; refine (bx_units H9.out (by omega) sF hsf.out (by rw [HFD.out]; exact HUB.out)).mono ?_; rw [HFD.out, HUV.out]; rintro r w10 ⟨rfl, h⟩; have H10 := Lib.hid h; clear h)
            go_upto_region 33 with (first
              | (go_at_call 34; refine (bx_on H10.out (by omega) ((Below.refl _ _).alloc (Nat.le_refl _) _) _ _ _ [keep] (keep_lit keep hk)).mono ?_; rw [HON.out]; rintro r w11 ⟨rfl, h⟩; have H11 := Lib.hid h; clear h)
              | (go_at_call 26; refine (al_read H11.out.al sF hsf.out 0 0 (by decide) (by decide)).mono ?_; rw [HFD.out, HR0.out]; rintro r w12 ⟨v12, rfl, hv, hb⟩; obtain ⟨A12, q12, rfl⟩ : ∃ A q, v12 = .slice A 0 q := Kd.R_slice hv; have H12 := Lib.hid (H11.out.below hb); clear hv hb)
              | (go_at_call 35; refine (al_size H12.out.al sF hsf.out).mono ?_; rw [HFD.out, HSZ.out]; rintro r w13 ⟨rfl, hw⟩; obtain rfl := hw.symm; clear hw))
            go_upto_region 42 with (go_at_call 33; refine (bx_units H12.out (by omega) sF hsf.out (by rw [HFD.out]; exact (by decide : (0 : Int) ≤ 9223372036854775807))).mono ?_; rw [HFD.out, show unitsD (fD t t [] ((3 + (j : Int) + 1))) [102] = 0 from rfl]; rintro r w14 ⟨rfl, h⟩; have H14 := Lib.hid h; clear h)
            have hnq := (Kd.R_reads' H14.out.row)
            have HNQ : Hid (nL ≤ q13) := hnq.2.1
            clear hnq
            go_wp2_with (first
              | (go_at_call 26; refine (al_read H14.out.al sF hsf.out 0 _ (by decide) HUB2.out).mono ?_; rw [HFD.out, HR1.out]; rintro r w15 ⟨v15, rfl, hv, hb⟩; obtain ⟨A15, q15, rfl⟩ : ∃ A q, v15 = .slice A T q := (by obtain ⟨A_, q_, e_⟩ := Kd.R_slice hv; exact ⟨A_, q_, by rw [← HTL.out]; exact e_⟩); have H15 := Lib.hid (H14.out.below hb); have HV15 := Lib.hid hv; clear hv hb)
              | (go_at_call 37; refine (pieceS_any A13 nL q13 L _ T _ HTU.out (by have h := (Kd.R_reads' H15.out.row); rw [← HNL.out] at h; exact h.2.2) HNQ.out (by rw [← HNL.out]; exact hTL) (by rw [← HNL.out]; unfold big; omega)).mono ?_; rintro r w16 ⟨A16, q16, rfl, hc16, hq16, hb⟩; have HC16 := Lib.hid hc16; have HB16 := Lib.hid hb; have HQ16 := Lib.hid hq16; clear hc16 hq16 hb)
              | (go_at_call 36; refine (sameS_any A15 A16 T q15 q16 (L.take T) _ (by have h := (Kd.R_reads' HV15.out); rw [HTL.out, HTT.out] at h; exact Kd.C_below h.2.2 HB16.out) (Kd.R_reads' HV15.out).2.1 HC16.out HQ16.out (by rw [List.length_take, ← HNL.out]; unfold big; omega)).mono ?_; rintro r w17 ⟨rfl, hb⟩; have H17 := Lib.hid ((H15.out.below HB16.out).below hb); clear hb))
            go_ret
            exact ⟨rfl, H17.out.bl⟩
          · obtain ⟨T, u, hTL, hTu, HT, hue⟩ : ∃ (T : Nat) (u : Int), T ≤ nL ∧ (T : Int) = u ∧ Hid (after s (cs ++ [⟨true, cut, []⟩]) keep = L.take T) ∧ u = cut := ⟨cut.toNat, _, by omega, by omega, Lib.hid (HK (cut.toNat) (.inr ⟨by omega, rfl⟩)), rfl⟩
            clear HK
            obtain ⟨t, ht⟩ : ∃ t, t = L.take T := ⟨_, rfl⟩
            have htl : t.length = T := by rw [ht, List.length_take, ← HNL.out]; omega
            have HON : Hid (onD [keep] (fD s (L.take cut.toNat) (cs ++ [⟨true, cut, []⟩]) (3 + (j : Int) + 1)) = fD t t [] ((3 + (j : Int) + 1))) := by show _ = _; rw [fD_on, HT.out, ← ht]
            have HR0 : Hid (readD (fD t t [] ((3 + (j : Int) + 1))) [102] 0 0 = ([], 0)) := by show _ = _; have := fD_read t t [] ((3 + (j : Int) + 1)) 0 (Nat.zero_le _); simpa using this
            have HR1 : Hid (readD (fD t t [] ((3 + (j : Int) + 1))) [102] 0 u = (t, 0)) := by
              have := fD_read t t [] ((3 + (j : Int) + 1)) T (by omega)
              rw [hTu, List.take_of_length_le (by omega)] at this
              exact this
            have HSZ : Hid (sizeD (fD t t [] ((3 + (j : Int) + 1))) [102] = (u, 0)) := by show _ = _; rw [fD_size, htl, hTu]
            have HTL := Lib.hid htl
            have HTT := Lib.hid ht
            have HTU := Lib.hid hTu
            have HUB2 : Hid (u ≤ 9223372036854775807) := by show _ ≤ _; omega
            clear ht htl
            subst hue
            clear hTu
            go_upto_region 30 with (go_at_call 33; refine (bx_units H9.out (by omega) sF hsf.out (by rw [HFD.out]; exact HUB.out)).mono ?_; rw [HFD.out, HUV.out]; rintro r w10 ⟨rfl, h⟩; have H10 := Lib.hid h; clear h)
            go_upto_region 33 with (first
              | (go_at_call 34; refine (bx_on H10.out (by omega) ((Below.refl _ _).alloc (Nat.le_refl _) _) _ _ _ [keep] (keep_lit keep hk)).mono ?_; rw [HON.out]; rintro r w11 ⟨rfl, h⟩; have H11 := Lib.hid h; clear h)
              | (go_at_call 26; refine (al_read H11.out.al sF hsf.out 0 0 (by decide) (by decide)).mono ?_; rw [HFD.out, HR0.out]; rintro r w12 ⟨v12, rfl, hv, hb⟩; obtain ⟨A12, q12, rfl⟩ : ∃ A q, v12 = .slice A 0 q := Kd.R_slice hv; have H12 := Lib.hid (H11.out.below hb); clear hv hb)
              | (go_at_call 35; refine (al_size H12.out.al sF hsf.out).mono ?_; rw [HFD.out, HSZ.out]; rintro r w13 ⟨rfl, hw⟩; obtain rfl := hw.symm; clear hw))
            go_upto_region 42 with (go_at_call 33; refine (bx_units H12.out (by omega) sF hsf.out (by rw [HFD.out]; exact (by decide : (0 : Int) ≤ 9223372036854775807))).mono ?_; rw [HFD.out, show unitsD (fD t t [] ((3 + (j : Int) + 1))) [102] = 0 from rfl]; rintro r w14 ⟨rfl, h⟩; have H14 := Lib.hid h; clear h)
            have hnq := (Kd.R_reads' H14.out.row)
            have HNQ : Hid (nL ≤ q13) := hnq.2.1
            clear hnq
            go_wp2_with (first
              | (go_at_call 26; refine (al_read H14.out.al sF hsf.out 0 _ (by decide) HUB2.out).mono ?_; rw [HFD.out, HR1.out]; rintro r w15 ⟨v15, rfl, hv, hb⟩; obtain ⟨A15, q15, rfl⟩ : ∃ A q, v15 = .slice A T q := (by obtain ⟨A_, q_, e_⟩ := Kd.R_slice hv; exact ⟨A_, q_, by rw [← HTL.out]; exact e_⟩); have H15 := Lib.hid (H14.out.below hb); have HV15 := Lib.hid hv; clear hv hb)
              | (go_at_call 37; refine (pieceS_any A13 nL q13 L _ T _ HTU.out (by have h := (Kd.R_reads' H15.out.row); rw [← HNL.out] at h; exact h.2.2) HNQ.out (by rw [← HNL.out]; exact hTL) (by rw [← HNL.out]; unfold big; omega)).mono ?_; rintro r w16 ⟨A16, q16, rfl, hc16, hq16, hb⟩; have HC16 := Lib.hid hc16; have HB16 := Lib.hid hb; have HQ16 := Lib.hid hq16; clear hc16 hq16 hb)
              | (go_at_call 36; refine (sameS_any A15 A16 T q15 q16 (L.take T) _ (by have h := (Kd.R_reads' HV15.out); rw [HTL.out, HTT.out] at h; exact Kd.C_below h.2.2 HB16.out) (Kd.R_reads' HV15.out).2.1 HC16.out HQ16.out (by rw [List.length_take, ← HNL.out]; unfold big; omega)).mono ?_; rintro r w17 ⟨rfl, hb⟩; have H17 := Lib.hid ((H15.out.below HB16.out).below hb); clear hb))
            go_ret
            exact ⟨rfl, H17.out.bl⟩
        · rcases (by omega : cut < 0 ∨ ((nL : Int) < cut ∧ 0 ≤ cut)) with hct | ⟨hct, hct2⟩
          all_goals
            clear hcut
            have HUV : Hid (unitsD (fD s L cs (3 + (j : Int))) [102] = (nL : Int) - n0) := HUN.out
            have HUB : Hid (unitsD (fD s L cs (3 + (j : Int))) [102] ≤ 9223372036854775807) := by show _ ≤ _; rw [HUV.out]; omega
            have HK := fun T (hT : T = n0 + keep.toNat ∨ (T = nL ∧ (nL : Int) - n0 ≤ keep)) => kept_plain HLF.out HSL.out HNL.out keep (T := T) hT
            rw [← HCS.out] at HK
            rcases (by omega : keep ≤ 0 ∨ (0 < keep ∧ keep < (nL : Int) - n0) ∨ (0 < keep ∧ (nL : Int) - n0 < keep) ∨ (0 < keep ∧ keep ≤ (nL : Int) - n0 ∧ (nL : Int) - n0 ≤ keep)) with hq | ⟨hq, hq2⟩ | ⟨hq, hq2⟩ | ⟨hq, hq2, hq3⟩
            · obtain ⟨T, u, hTL, hTu, HT, hue⟩ : ∃ (T : Nat) (u : Int), T ≤ nL ∧ (T : Int) = u ∧ Hid (after s cs keep = L.take T) ∧ u = (n0 : Int) := ⟨n0, _, by omega, by omega, Lib.hid (HK (n0) (.inl (by omega))), rfl⟩
              clear HK
              obtain ⟨t, ht⟩ : ∃ t, t = L.take T := ⟨_, rfl⟩
              have htl : t.length = T := by rw [ht, List.length_take, ← HNL.out]; omega
              have HON : Hid (onD [keep] (fD s L cs (3 + (j : Int))) = fD t t [] ((3 + (j : Int)))) := by show _ = _; rw [fD_on, HT.out, ← ht]
              have HR0 : Hid (readD (fD t t [] ((3 + (j : Int)))) [102] 0 0 = ([], 0)) := by show _ = _; have := fD_read t t [] ((3 + (j : Int))) 0 (Nat.zero_le _); simpa using this
              have HR1 : Hid (readD (fD t t [] ((3 + (j : Int)))) [102] 0 u = (t, 0)) := by
                have := fD_read t t [] ((3 + (j : Int))) T (by omega)
                rw [hTu, List.take_of_length_le (by omega)] at this
                exact this
              have HSZ : Hid (sizeD (fD t t [] ((3 + (j : Int)))) [102] = (u, 0)) := by show _ = _; rw [fD_size, htl, hTu]
              have HTL := Lib.hid htl
              have HTT := Lib.hid ht
              have HTU := Lib.hid hTu
              have HUB2 : Hid (u ≤ 9223372036854775807) := by show _ ≤ _; omega
              clear ht htl
              subst hue
              clear hTu
              go_upto_region 30 with (go_at_call 33; refine (bx_units HX.out (by omega) sF hsf.out (by rw [HFD.out]; exact HUB.out)).mono ?_; rw [HFD.out, HUV.out]; rintro r w10 ⟨rfl, h⟩; have H10 := Lib.hid h; clear h)
              go_upto_region 33 with (first
                | (go_at_call 34; refine (bx_on H10.out (by omega) ((Below.refl _ _).alloc (Nat.le_refl _) _) _ _ _ [keep] (keep_lit keep hk)).mono ?_; rw [HON.out]; rintro r w11 ⟨rfl, h⟩; have H11 := Lib.hid h; clear h)
                | (go_at_call 26; refine (al_read H11.out.al sF hsf.out 0 0 (by decide) (by decide)).mono ?_; rw [HFD.out, HR0.out]; rintro r w12 ⟨v12, rfl, hv, hb⟩; obtain ⟨A12, q12, rfl⟩ : ∃ A q, v12 = .slice A 0 q := Kd.R_slice hv; have H12 := Lib.hid (H11.out.below hb); clear hv hb)
                | (go_at_call 35; refine (al_size H12.out.al sF hsf.out).mono ?_; rw [HFD.out, HSZ.out]; rintro r w13 ⟨rfl, hw⟩; obtain rfl := hw.symm; clear hw))
              go_upto_region 42 with (go_at_call 33; refine (bx_units H12.out (by omega) sF hsf.out (by rw [HFD.out]; exact (by decide : (0 : Int) ≤ 9223372036854775807))).mono ?_; rw [HFD.out, show unitsD (fD t t [] ((3 + (j : Int)))) [102] = 0 from rfl]; rintro r w14 ⟨rfl, h⟩; have H14 := Lib.hid h; clear h)
              have hnq := (Kd.R_reads' H14.out.row)
              have HNQ : Hid (nL ≤ q13) := hnq.2.1
              clear hnq
              go_wp2_with (first
                | (go_at_call 26; refine (al_read H14.out.al sF hsf.out 0 _ (by decide) HUB2.out).mono ?_; rw [HFD.out, HR1.out]; rintro r w15 ⟨v15, rfl, hv, hb⟩; obtain ⟨A15, q15, rfl⟩ : ∃ A q, v15 = .slice A T q := (by obtain ⟨A_, q_, e_⟩ := Kd.R_slice hv; exact ⟨A_, q_, by rw [← HTL.out]; exact e_⟩); have H15 := Lib.hid (H14.out.below hb); have HV15 := Lib.hid hv; clear hv hb)
                | (go_at_call 37; refine (pieceS_any A13 nL q13 L _ T _ HTU.out (by have h := (Kd.R_reads' H15.out.row); rw [← HNL.out] at h; exact h.2.2) HNQ.out (by rw [← HNL.out]; exact hTL) (by rw [← HNL.out]; unfold big; omega)).mono ?_; rintro r w16 ⟨A16, q16, rfl, hc16, hq16, hb⟩; have HC16 := Lib.hid hc16; have HB16 := Lib.hid hb; have HQ16 := Lib.hid hq16; clear hc16 hq16 hb)
                | (go_at_call 36; refine (sameS_any A15 A16 T q15 q16 (L.take T) _ (by have h := (Kd.R_reads' HV15.out); rw [HTL.out, HTT.out] at h; exact Kd.C_below h.2.2 HB16.out) (Kd.R_reads' HV15.out).2.1 HC16.out HQ16.out (by rw [List.length_take, ← HNL.out]; unfold big; omega)).mono ?_; rintro r w17 ⟨rfl, hb⟩; have H17 := Lib.hid ((H15.out.below HB16.out).below hb); clear hb))
              go_ret
              exact ⟨rfl, H17.out.bl⟩
            · obtain ⟨T, u, hTL, hTu, HT, hue⟩ : ∃ (T : Nat) (u : Int), T ≤ nL ∧ (T : Int) = u ∧ Hid (after s cs keep = L.take T) ∧ u = (n0 : Int) + keep := ⟨n0 + keep.toNat, _, by omega, by omega, Lib.hid (HK (n0 + keep.toNat) (.inl rfl)), rfl⟩
              clear HK
              obtain ⟨t, ht⟩ : ∃ t, t = L.take T := ⟨_, rfl⟩
              have htl : t.length = T := by rw [ht, List.length_take, ← HNL.out]; omega
              have HON : Hid (onD [keep] (fD s L cs (3 + (j : Int))) = fD t t [] ((3 + (j : Int)))) := by show _ = _; rw [fD_on, HT.out, ← ht]
              have HR0 : Hid (readD (fD t t [] ((3 + (j : Int)))) [102] 0 0 = ([], 0)) := by show _ = _; have := fD_read t t [] ((3 + (j : Int))) 0 (Nat.zero_le _); simpa using this
              have HR1 : Hid (readD (fD t t [] ((3 + (j : Int)))) [102] 0 u = (t, 0)) := by
                have := fD_read t t [] ((3 + (j : Int))) T (by omega)
                rw [hTu, List.take_of_length_le (by omega)] at this
                exact this
              have HSZ : Hid (sizeD (fD t t [] ((3 + (j : Int)))) [102] = (u, 0)) := by show _ = _; rw [fD_size, htl, hTu]
              have HTL := Lib.hid htl
              have HTT := Lib.hid ht
              have HTU := Lib.hid hTu
              have HUB2 : Hid (u ≤ 9223372036854775807) := by show _ ≤ _; omega
              clear ht htl
              subst hue
              clear hTu
              go_upto_region 30 with (go_at_call 33; refine (bx_units HX.out (by omega) sF hsf.out (by rw [HFD.out]; exact HUB.out)).mono ?_; rw [HFD.out, HUV.out]; rintro r w10 ⟨rfl, h⟩; have H10 := Lib.hid h; clear h)
              go_upto_region 33 with (first
                | (go_at_call 34; refine (bx_on H10.out (by omega) ((Below.refl _ _).alloc (Nat.le_refl _) _) _ _ _ [keep] (keep_lit keep hk)).mono ?_; rw [HON.out]; rintro r w11 ⟨rfl, h⟩; have H11 := Lib.hid h; clear h)
                | (go_at_call 26; refine (al_read H11.out.al sF hsf.out 0 0 (by decide) (by decide)).mono ?_; rw [HFD.out, HR0.out]; rintro r w12 ⟨v12, rfl, hv, hb⟩; obtain ⟨A12, q12, rfl⟩ : ∃ A q, v12 = .slice A 0 q := Kd.R_slice hv; have H12 := Lib.hid (H11.out.below hb); clear hv hb)
                | (go_at_call 35; refine (al_size H12.out.al sF hsf.out).mono ?_; rw [HFD.out, HSZ.out]; rintro r w13 ⟨rfl, hw⟩; obtain rfl := hw.symm; clear hw))
              go_upto_region 42 with (go_at_call 33; refine (bx_units H12.out (by omega) sF hsf.out (by rw [HFD.out]; exact (by decide : (0 : Int) ≤ 9223372036854775807))).mono ?_; rw [HFD.out, show unitsD (fD t t [] ((3 + (j : Int)))) [102] = 0 from rfl]; rintro r w14 ⟨rfl, h⟩; have H14 := Lib.hid h; clear h)
              have hnq := (Kd.R_reads' H14.out.row)
              have HNQ : Hid (nL ≤ q13) := hnq.2.1
              clear hnq
              go_wp2_with (first
                | (go_at_call 26; refine (al_read H14.out.al sF hsf.out 0 _ (by decide) HUB2.out).mono ?_; rw [HFD.out, HR1.out]; rintro r w15 ⟨v15, rfl, hv, hb⟩; obtain ⟨A15, q15, rfl⟩ : ∃ A q, v15 = .slice A T q := (by obtain ⟨A_, q_, e_⟩ := Kd.R_slice hv; exact ⟨A_, q_, by rw [← HTL.out]; exact e_⟩); have H15 := Lib.hid (H14.out.below hb); have HV15 := Lib.hid hv; clear hv hb)
                | (go_at_call 37; refine (pieceS_any A13 nL q13 L _ T _ HTU.out (by have h := (Kd.R_reads' H15.out.row); rw [← HNL.out] at h; exact h.2.2) HNQ.out (by rw [← HNL.out]; exact hTL) (by rw [← HNL.out]; unfold big; omega)).mono ?_; rintro r w16 ⟨A16, q16, rfl, hc16, hq16, hb⟩; have HC16 := Lib.hid hc16; have HB16 := Lib.hid hb; have HQ16 := Lib.hid hq16; clear hc16 hq16 hb)
                | (go_at_call 36; refine (sameS_any A15 A16 T q15 q16 (L.take T) _ (by have h := (Kd.R_reads' HV15.out); rw [HTL.out, HTT.out] at h; exact Kd.C_below h.2.2 HB16.out) (Kd.R_reads' HV15.out).2.1 HC16.out HQ16.out (by rw [List.length_take, ← HNL.out]; unfold big; omega)).mono ?_; rintro r w17 ⟨rfl, hb⟩; have H17 := Lib.hid ((H15.out.below HB16.out).below hb); clear hb))
              go_ret
              exact ⟨rfl, H17.out.bl⟩
            · obtain ⟨T, u, hTL, hTu, HT, hue⟩ : ∃ (T : Nat) (u : Int), T ≤ nL ∧ (T : Int) = u ∧ Hid (after s cs keep = L.take T) ∧ u = (nL : Int) := ⟨nL, _, by omega, by omega, Lib.hid (HK (nL) (.inr ⟨rfl, by omega⟩)), rfl⟩
              clear HK
              obtain ⟨t, ht⟩ : ∃ t, t = L.take T := ⟨_, rfl⟩
              have htl : t.length = T := by rw [ht, List.length_take, ← HNL.out]; omega
              have HON : Hid (onD [keep] (fD s L cs (3 + (j : Int))) = fD t t [] ((3 + (j : Int)))) := by show _ = _; rw [fD_on, HT.out, ← ht]
              have HR0 : Hid (readD (fD t t [] ((3 + (j : Int)))) [102] 0 0 = ([], 0)) := by show _ = _; have := fD_read t t [] ((3 + (j : Int))) 0 (Nat.zero_le _); simpa using this
              have HR1 : Hid (readD (fD t t [] ((3 + (j : Int)))) [102] 0 u = (t, 0)) := by
                have := fD_read t t [] ((3 + (j : Int))) T (by omega)
                rw [hTu, List.take_of_length_le (by omega)] at this
                exact this
              have HSZ : Hid (sizeD (fD t t [] ((3 + (j : Int)))) [102] = (u, 0)) := by show _ = _; rw [fD_size, htl, hTu]
              have HTL := Lib.hid htl
              have HTT := Lib.hid ht
              have HTU := Lib.hid hTu
              have HUB2 : Hid (u ≤ 9223372036854775807) := by show _ ≤ _; omega
              clear ht htl
              subst hue
              clear hTu
              go_upto_region 30 with (go_at_call 33; refine (bx_units HX.out (by omega) sF hsf.out (by rw [HFD.out]; exact HUB.out)).mono ?_; rw [HFD.out, HUV.out]; rintro r w10 ⟨rfl, h⟩; have H10 := Lib.hid h; clear h)
              go_upto_region 33 with (first
                | (go_at_call 34; refine (bx_on H10.out (by omega) ((Below.refl _ _).alloc (Nat.le_refl _) _) _ _ _ [keep] (keep_lit keep hk)).mono ?_; rw [HON.out]; rintro r w11 ⟨rfl, h⟩; have H11 := Lib.hid h; clear h)
                | (go_at_call 26; refine (al_read H11.out.al sF hsf.out 0 0 (by decide) (by decide)).mono ?_; rw [HFD.out, HR0.out]; rintro r w12 ⟨v12, rfl, hv, hb⟩; obtain ⟨A12, q12, rfl⟩ : ∃ A q, v12 = .slice A 0 q := Kd.R_slice hv; have H12 := Lib.hid (H11.out.below hb); clear hv hb)
                | (go_at_call 35; refine (al_size H12.out.al sF hsf.out).mono ?_; rw [HFD.out, HSZ.out]; rintro r w13 ⟨rfl, hw⟩; obtain rfl := hw.symm; clear hw))
              go_upto_region 42 with (go_at_call 33; refine (bx_units H12.out (by omega) sF hsf.out (by rw [HFD.out]; exact (by decide : (0 : Int) ≤ 9223372036854775807))).mono ?_; rw [HFD.out, show unitsD (fD t t [] ((3 + (j : Int)))) [102] = 0 from rfl]; rintro r w14 ⟨rfl, h⟩; have H14 := Lib.hid h; clear h)
              have hnq := (Kd.R_reads' H14.out.row)
              have HNQ : Hid (nL ≤ q13) := hnq.2.1
              clear hnq
              go_wp2_with (first
                | (go_at_call 26; refine (al_read H14.out.al sF hsf.out 0 _ (by decide) HUB2.out).mono ?_; rw [HFD.out, HR1.out]; rintro r w15 ⟨v15, rfl, hv, hb⟩; obtain ⟨A15, q15, rfl⟩ : ∃ A q, v15 = .slice A T q := (by obtain ⟨A_, q_, e_⟩ := Kd.R_slice hv; exact ⟨A_, q_, by rw [← HTL.out]; exact e_⟩); have H15 := Lib.hid (H14.out.below hb); have HV15 := Lib.hid hv; clear hv hb)
                | (go_at_call 37; refine (pieceS_any A13 nL q13 L _ T _ HTU.out (by have h := (Kd.R_reads' H15.out.row); rw [← HNL.out] at h; exact h.2.2) HNQ.out (by rw [← HNL.out]; exact hTL) (by rw [← HNL.out]; unfold big; omega)).mono ?_; rintro r w16 ⟨A16, q16, rfl, hc16, hq16, hb⟩; have HC16 := Lib.hid hc16; have HB16 := Lib.hid hb; have HQ16 := Lib.hid hq16; clear hc16 hq16 hb)
                | (go_at_call 36; refine (sameS_any A15 A16 T q15 q16 (L.take T) _ (by have h := (Kd.R_reads' HV15.out); rw [HTL.out, HTT.out] at h; exact Kd.C_below h.2.2 HB16.out) (Kd.R_reads' HV15.out).2.1 HC16.out HQ16.out (by rw [List.length_take, ← HNL.out]; unfold big; omega)).mono ?_; rintro r w17 ⟨rfl, hb⟩; have H17 := Lib.hid ((H15.out.below HB16.out).below hb); clear hb))
              go_ret
              exact ⟨rfl, H17.out.bl⟩
            · obtain ⟨T, u, hTL, hTu, HT, hue⟩ : ∃ (T : Nat) (u : Int), T ≤ nL ∧ (T : Int) = u ∧ Hid (after s cs keep = L.take T) ∧ u = (nL : Int) := ⟨nL, _, by omega, by omega, Lib.hid (HK (nL) (.inr ⟨rfl, by omega⟩)), rfl⟩
              clear HK
              obtain ⟨t, ht⟩ : ∃ t, t = L.take T := ⟨_, rfl⟩
              have htl : t.length = T := by rw [ht, List.length_take, ← HNL.out]; omega
              have HON : Hid (onD [keep] (fD s L cs (3 + (j : Int))) = fD t t [] ((3 + (j : Int)))) := by show _ = _; rw [fD_on, HT.out, ← ht]
              have HR0 : Hid (readD (fD t t [] ((3 + (j : Int)))) [102] 0 0 = ([], 0)) := by show _ = _; have := fD_read t t [] ((3 + (j : Int))) 0 (Nat.zero_le _); simpa using this
              have HR1 : Hid (readD (fD t t [] ((3 + (j : Int)))) [102] 0 u = (t, 0)) := by
                have := fD_read t t [] ((3 + (j : Int))) T (by omega)
                rw [hTu, List.take_of_length_le (by omega)] at this
                exact this
              have HSZ : Hid (sizeD (fD t t [] ((3 + (j : Int)))) [102] = (u, 0)) := by show _ = _; rw [fD_size, htl, hTu]
              have HTL := Lib.hid htl
              have HTT := Lib.hid ht
              have HTU := Lib.hid hTu
              have HUB2 : Hid (u ≤ 9223372036854775807) := by show _ ≤ _; omega
              clear ht htl
              subst hue
              clear hTu
              go_upto_region 30 with (go_at_call 33; refine (bx_units HX.out (by omega) sF hsf.out (by rw [HFD.out]; exact HUB.out)).mono ?_; rw [HFD.out, HUV.out]; rintro r w10 ⟨rfl, h⟩; have H10 := Lib.hid h; clear h)
              go_upto_region 33 with (first
                | (go_at_call 34; refine (bx_on H10.out (by omega) ((Below.refl _ _).alloc (Nat.le_refl _) _) _ _ _ [keep] (keep_lit keep hk)).mono ?_; rw [HON.out]; rintro r w11 ⟨rfl, h⟩; have H11 := Lib.hid h; clear h)
                | (go_at_call 26; refine (al_read H11.out.al sF hsf.out 0 0 (by decide) (by decide)).mono ?_; rw [HFD.out, HR0.out]; rintro r w12 ⟨v12, rfl, hv, hb⟩; obtain ⟨A12, q12, rfl⟩ : ∃ A q, v12 = .slice A 0 q := Kd.R_slice hv; have H12 := Lib.hid (H11.out.below hb); clear hv hb)
                | (go_at_call 35; refine (al_size H12.out.al sF hsf.out).mono ?_; rw [HFD.out, HSZ.out]; rintro r w13 ⟨rfl, hw⟩; obtain rfl := hw.symm; clear hw))
              go_upto_region 42 with (go_at_call 33; refine (bx_units H12.out (by omega) sF hsf.out (by rw [HFD.out]; exact (by decide : (0 : Int) ≤ 9223372036854775807))).mono ?_; rw [HFD.out, show unitsD (fD t t [] ((3 + (j : Int)))) [102] = 0 from rfl]; rintro r w14 ⟨rfl, h⟩; have H14 := Lib.hid h; clear h)
              have hnq := (Kd.R_reads' H14.out.row)
              have HNQ : Hid (nL ≤ q13) := hnq.2.1
              clear hnq
              go_wp2_with (first
                | (go_at_call 26; refine (al_read H14.out.al sF hsf.out 0 _ (by decide) HUB2.out).mono ?_; rw [HFD.out, HR1.out]; rintro r w15 ⟨v15, rfl, hv, hb⟩; obtain ⟨A15, q15, rfl⟩ : ∃ A q, v15 = .slice A T q := (by obtain ⟨A_, q_, e_⟩ := Kd.R_slice hv; exact ⟨A_, q_, by rw [← HTL.out]; exact e_⟩); have H15 := Lib.hid (H14.out.below hb); have HV15 := Lib.hid hv; clear hv hb)
                | (go_at_call 37; refine (pieceS_any A13 nL q13 L _ T _ HTU.out (by have h := (Kd.R_reads' H15.out.row); rw [← HNL.out] at h; exact h.2.2) HNQ.out (by rw [← HNL.out]; exact hTL) (by rw [← HNL.out]; unfold big; omega)).mono ?_; rintro r w16 ⟨A16, q16, rfl, hc16, hq16, hb⟩; have HC16 := Lib.hid hc16; have HB16 := Lib.hid hb; have HQ16 := Lib.hid hq16; clear hc16 hq16 hb)
                | (go_at_call 36; refine (sameS_any A15 A16 T q15 q16 (L.take T) _ (by have h := (Kd.R_reads' HV15.out); rw [HTL.out, HTT.out] at h; exact Kd.C_below h.2.2 HB16.out) (Kd.R_reads' HV15.out).2.1 HC16.out HQ16.out (by rw [List.length_take, ← HNL.out]; unfold big; omega)).mono ?_; rintro r w17 ⟨rfl, hb⟩; have H17 := Lib.hid ((H15.out.below HB16.out).below hb); clear hb))
              go_ret
              exact ⟨rfl, H17.out.bl⟩
end Go.Proofs.Ytkhopknpadncdaa
