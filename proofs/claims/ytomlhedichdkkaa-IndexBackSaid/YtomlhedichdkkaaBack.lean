/- The walk of IndexBack. -/
import Derived.Test.YtomlhedichdkkaaBackL
import Derived.Deep.CutRange
namespace Go.Proofs.Ytomlhedichdkkaa
open Go Go.RowKit
set_option linter.unusedVariables false

set_option maxRecDepth 20000 in
set_option maxHeartbeats 4000000 in
theorem back_law (w : World) (base : Int) (es : List Ent) (A : Option Addr) (c n : Nat) (q t : Int) (hn : es.length = n) (hm : n ≤ 140737488355328) (hr : Row w A es) (lo : -9223372036854775808 ≤ base) (hi : base ≤ 9223372036854775807) (hq : -9223372036854775808 ≤ q ∧ q ≤ 9223372036854775807) :
    Calls Try.prog 5 #[.int .i64 base, .slice A n c, .int .i64 q, .int .i64 t] w fun r w' => r = .returned (.bool true) ∧ Below w.heap.size w w' := by
  have HAL := Lib.hid (alive_any w)
  have HBU := Lib.hid (fun (w' : World) (hb : Below w.heap.size w w') => built_any w' base es A c n hn hm (hr.below' hb) lo hi)
  have HBS := Lib.hid (fun (w' : World) (L : List Ent) (A : Option Addr) (c n : Nat) (hn : L.length = n) (hm : n ≤ 1048576) (hv : Valid base L) (hr : Row w' A L) => built_any w' base L A c n hn (by omega) hr lo hi)
  have HL := Lib.hid (built_len base es)
  have HQ := Lib.hid hq
  clear hn hr
  generalize hL : builtOf base es = L at *
  have hLl := HL.out
  -- the number kept
  obtain ⟨K, hK1, hK2, hK3⟩ : ∃ K : Nat, K ≤ L.length ∧ min (max q 0) (L.length : Int) = (K : Int) ∧ L.take q.toNat = L.take K := by
    refine ⟨min q.toNat L.length, by omega, by omega, ?_⟩
    rcases Nat.le_total q.toNat L.length with h | h
    · rw [Nat.min_eq_left h]
    · rw [Nat.min_eq_right h, List.take_of_length_le h, List.take_length]
  have HTK := Lib.hid hK3
  have HMM := Lib.hid hK2
  clear hK3 hL hq
  go_enter Try.func5, Try.ntmps5
  go_wp2_with fail
  refine HAL.out.mono ?_
  rintro r w1 ⟨rfl, h1⟩
  have B1 := Lib.hid h1
  clear h1
  go_wp2_with fail
  refine (HBU.out w1 B1.out).mono ?_
  rintro r w2 ⟨gx, rfl, h2⟩
  have F2 := Lib.hid h2
  clear h2
  go_wp2_with fail
  refine (HBU.out w2 (B1.out.trans (F2.out.bel.mono B1.out.size))).mono ?_
  rintro r w3 ⟨gy, rfl, h3⟩
  have F3 := Lib.hid h3
  have X3 := Lib.hid (F2.out.obj.below h3.bel)
  clear h3
  go_wp2_with fail
  refine (ob_len X3.out).mono ?_
  rintro r w4 ⟨rfl, rfl⟩
  go_upto_region 7 with fail
  go_cut [13] from 51 to 54 (fun v wx => v = .int .i64 (K : Int) ∧ wx = w3)
  case first =>
    have hmm := HMM.out
    go_wp2_with fail
    all_goals
      go_meet
      refine ⟨?_, rfl⟩
      congr 1
      omega
  case rest =>
  obtain ⟨rfl, hwx⟩ := hcut
  rw [hwx]
  clear hwx
  go_wp2_with fail
  refine (ob_all F3.out.obj (by omega)).mono ?_
  rintro r w5 ⟨v5, rfl, ho5, hb5⟩
  have Y5 := Lib.hid (F3.out.obj.below hb5)
  have X5 := Lib.hid (X3.out.below hb5)
  have B5 := Lib.hid (((B1.out.trans (F2.out.bel.mono B1.out.size)).trans (F3.out.bel.mono (Nat.le_trans B1.out.size F2.out.bel.size))).trans (hb5.mono (Nat.le_trans (Nat.le_trans B1.out.size F2.out.bel.size) F3.out.bel.size)))
  have HLT := Lib.hid ho5.lt
  obtain ⟨A5, c5, rfl⟩ := ho5.slice
  have O5 := Lib.hid ho5
  have hc5 : L.length ≤ c5 := by
    rcases Nat.eq_zero_or_pos L.length with h | h
    · omega
    · obtain ⟨_, _, hv, _, _, hle, _⟩ := ho5.form h
      injection hv with _ _ hv
      omega
  have R5 := Lib.hid ho5.row
  have S5 := Lib.hid hb5.size
  clear ho5 hb5
  have hK5 : (K : Int) ≤ (c5 : Int) := by omega
  have hK6 : (0 : Int) ≤ (K : Int) := by omega
  go_wp2_with fail
  have hlk : (L.take K).length = K := by rw [List.length_take]; omega
  have HLK := Lib.hid hlk
  have hvk := X5.out.val.take K
  have HSELF := Lib.hid (built_self hvk (by omega))
  refine (HBS.out w5 (L.take K) A5 c5 K hlk (by omega) hvk (R5.out.take K)).mono ?_
  rintro r w6 ⟨gf, rfl, h6⟩
  rw [HSELF.out] at h6
  rw [HSELF.out, HLK.out]
  have N6 := Lib.hid h6
  have X6 := Lib.hid (X5.out.below h6.bel)
  have Y6 := Lib.hid (Y5.out.below h6.bel)
  have O6 : Hid (Owns w6 w3.heap.size 30 8 (.slice A5 L.length c5) L.length (entVals L)) := O5.out.kept (S := fun _ => False) (Kept.of_below h6.bel) (fun _ _ h => h)
  have B6 := Lib.hid (B5.out.trans (h6.bel.mono B5.out.size))
  have S2 := Lib.hid (Nat.le_trans B1.out.size F2.out.bel.size)
  clear h6 hlk hvk
  go_wp2_with fail
  refine (ob_back X6.out q (by omega) HQ.out).mono ?_
  rintro r w7 ⟨rfl, hx7, hk7⟩
  rw [HTK.out] at hx7
  have X7 := Lib.hid hx7
  have SZ : Hid (w.heap.size ≤ w1.heap.size ∧ w1.heap.size ≤ w2.heap.size ∧ w2.heap.size ≤ w3.heap.size ∧ w3.heap.size ≤ w5.heap.size ∧ w5.heap.size ≤ w6.heap.size ∧ w6.heap.size ≤ w7.heap.size) :=
    ⟨B1.out.size, F2.out.bel.size, F3.out.bel.size, S5.out, N6.out.bel.size, hk7.size⟩
  have N7 : Hid (Obj w7 gf base (L.take K) (fun k => w5.heap.size ≤ k ∧ k < w6.heap.size)) := N6.out.obj.kept hk7 fun k hk hx => by have := SZ.out; omega
  have Y7 : Hid (Obj w7 gy base L (fun k => w2.heap.size ≤ k ∧ k < w3.heap.size)) := Y6.out.kept hk7 fun k hk hx => by have := SZ.out; omega
  have O7 : Hid (Owns w7 w3.heap.size 30 8 (.slice A5 L.length c5) L.length (entVals L)) := O6.out.kept hk7 fun k hk hx => by have := (O6.out.lt k hk).1; have := SZ.out; omega
  have B7 : Hid (Below w.heap.size w w7) := B6.out.trans (hk7.below B6.out.size fun k hk => by have := SZ.out; omega)
  have R7 := Lib.hid (O7.out.row.take K)
  clear hx7 hk7 X6 Y6 O6 B6 N6 X5 Y5 O5 B5 R5 X3 HSELF
  generalize hM : L.take K = M at *
  have HMD := Lib.hid hM
  clear hM
  have hMl := HLK.out
  go_upto_region 13 with fail
  go_cut [102] from 72 to 102 (fun v wx => v = .bool false ∧ Below w7.heap.size w7 wx)
  case first =>
    have hd : Below w7.heap.size w7 w7.drew := (Below.refl _ _).drew
    have XB := Lib.hid (fun (W : World) (h : Below w7.heap.size w7 W) => X7.out.below h)
    have NB := Lib.hid (fun (W : World) (h : Below w7.heap.size w7 W) => N7.out.below h)
    go_region_held3 (fun w' => Below w7.heap.size w7 w') (go_keep)
      (first
        | (go_at_call 10; refine (ob_all (XB.out _ ?_) (by omega)).mono ?_; (· assumption); rintro r wA ⟨vA, rfl, hoA, hbA⟩; have hA : Below w7.heap.size w7 wA := step_bel (by assumption) hbA; obtain ⟨AA, cA, rfl⟩ := hoA.slice; have rA := hoA.row; rw [HLK.out])
        | (go_at_call 18; refine (alike_any _ M AA A5 cA c5 K HLK.out (by omega) rA (R7.out.below' ?_)).mono ?_; (· assumption); rintro r wB ⟨rfl, hbB⟩; have hB : Below w7.heap.size w7 wB := step_bel (by assumption) hbB)
        | (go_at_call_of 14 (Value.pointer (some ⟨gx, 0, none⟩)); refine (ob_next (XB.out _ ?_) (by omega)).mono ?_; (· assumption); rintro r wC ⟨rfl, hbC⟩; have hC : Below w7.heap.size w7 wC := step_bel (by assumption) hbC)
        | (go_at_call_of 14 (Value.pointer (some ⟨gf, 0, none⟩)); refine (ob_next (NB.out _ ?_) (by omega)).mono ?_; (· assumption); rintro r wD ⟨rfl, hbD⟩; have hD : Below w7.heap.size w7 wD := step_bel (by assumption) hbD)
        | (go_at_call_of 15 (Value.pointer (some ⟨gx, 0, none⟩)); refine (ob_size (XB.out _ ?_) (by omega)).mono ?_; (· assumption); rintro r wE ⟨rfl, hbE⟩; have hE : Below w7.heap.size w7 wE := step_bel (by assumption) hbE)
        | (go_at_call_of 15 (Value.pointer (some ⟨gf, 0, none⟩)); refine (ob_size (NB.out _ ?_) (by omega)).mono ?_; (· assumption); rintro r wF ⟨rfl, hbF⟩; have hF : Below w7.heap.size w7 wF := step_bel (by assumption) hbF)
        | (go_at_call 9; refine (ob_len (XB.out _ ?_)).mono ?_; (· assumption); rintro r wG ⟨rfl, rfl⟩; rw [HLK.out]))
    all_goals
      go_wp2_with fail
      go_meet
      exact ⟨rfl, by assumption⟩
  case rest =>
  obtain ⟨rfl, h8⟩ := hcut
  have XL : Hid (Obj wc gx base M (fun k => (w1.heap.size ≤ k ∧ k < w2.heap.size ∨ w6.heap.size ≤ k) ∧ k < w7.heap.size)) := (X7.out.lt).below h8
  have N8 := Lib.hid (N7.out.below h8)
  have Y8 := Lib.hid (Y7.out.below h8)
  have O8 : Hid (Owns wc w3.heap.size 30 8 (.slice A5 L.length c5) L.length (entVals L)) := O7.out.kept (S := fun _ => False) (Kept.of_below h8) (fun _ _ h => h)
  have B8 := Lib.hid (B7.out.trans (h8.mono B7.out.size))
  have S8 := Lib.hid h8.size
  clear h8 X7 N7 Y7 O7 B7 R7 HLT HTK HBS HBU HAL
  go_wp2_with fail
  refine (ob_since XL.out (by omega) t).mono ?_
  rintro r w9 ⟨rfl, h9⟩
  have hans : optAns (sinceOf M t) = .tuple #[.agg #[.int .i64 ((sinceOf M t).getD Ent.zero).base, .int .i64 ((sinceOf M t).getD Ent.zero).count, .int .i64 ((sinceOf M t).getD Ent.zero).at_, .int .i64 ((sinceOf M t).getD Ent.zero).size, .int .i64 ((sinceOf M t).getD Ent.zero).last, .int .i64 ((sinceOf M t).getD Ent.zero).pid, .int .i16 ((sinceOf M t).getD Ent.zero).pep, .int .i32 ((sinceOf M t).getD Ent.zero).seq], .bool (sinceOf M t).isSome] := rfl
  have HAN := Lib.hid hans
  clear hans
  rw [HAN.out]
  generalize (sinceOf M t).getD Ent.zero = X at *
  generalize (sinceOf M t).isSome = ok at *
  have hb10 := (Below.refl w9.heap.size w9).alloc (Nat.le_refl _) (.cells #[.int .i64 X.base, .int .i64 X.count, .int .i64 X.at_, .int .i64 X.size, .int .i64 X.last, .int .i64 X.pid, .int .i16 X.pep, .int .i32 X.seq] 30)
  have B10 : Hid (Below wc.heap.size wc (w9.alloc (.cells #[.int .i64 X.base, .int .i64 X.count, .int .i64 X.at_, .int .i64 X.size, .int .i64 X.last, .int .i64 X.pid, .int .i16 X.pep, .int .i32 X.seq] 30))) := step_bel h9 hb10
  have Z10 := Lib.hid (boxAt w9 X)
  have L10 : Hid (w9.heap.size < (w9.alloc (.cells #[.int .i64 X.base, .int .i64 X.count, .int .i64 X.at_, .int .i64 X.size, .int .i64 X.last, .int .i64 X.pid, .int .i16 X.pep, .int .i32 X.seq] 30)).heap.size) := (Array.getElem?_eq_some_iff.1 Z10.out).1
  clear h9 hb10
  go_wp2_with fail
  generalize w9.alloc (.cells #[.int .i64 X.base, .int .i64 X.count, .int .i64 X.at_, .int .i64 X.size, .int .i64 X.last, .int .i64 X.pid, .int .i16 X.pep, .int .i32 X.seq] 30) = w10 at *
  refine (ob_since (N8.out.below B10.out) (by omega) t).mono ?_
  rintro r w11 ⟨rfl, h11⟩
  rw [HAN.out]
  have hb12 := (Below.refl w11.heap.size w11).alloc (Nat.le_refl _) (.cells #[.int .i64 X.base, .int .i64 X.count, .int .i64 X.at_, .int .i64 X.size, .int .i64 X.last, .int .i64 X.pid, .int .i16 X.pep, .int .i32 X.seq] 30)
  have B12 : Hid (Below wc.heap.size wc (w11.alloc (.cells #[.int .i64 X.base, .int .i64 X.count, .int .i64 X.at_, .int .i64 X.size, .int .i64 X.last, .int .i64 X.pid, .int .i16 X.pep, .int .i32 X.seq] 30))) := step_bel (step_bel B10.out h11) hb12
  have Z12 := Lib.hid (boxAt w11 X)
  obtain ⟨z0, z1, z2, z3, z4, z5, z6, z7⟩ := Z12.out.ent
  obtain ⟨y0, y1, y2, y3, y4, y5, y6, y7⟩ := ((Z10.out.below h11 L10.out).alloc (.cells #[.int .i64 X.base, .int .i64 X.count, .int .i64 X.at_, .int .i64 X.size, .int .i64 X.last, .int .i64 X.pid, .int .i16 X.pep, .int .i32 X.seq] 30)).ent
  clear h11 hb12
  go_wp2_with fail
  clear y0 y1 y2 y3 y4 y5 y6 y7 z0 z1 z2 z3 z4 z5 z6 z7
  generalize w11.alloc (.cells #[.int .i64 X.base, .int .i64 X.count, .int .i64 X.at_, .int .i64 X.size, .int .i64 X.last, .int .i64 X.pid, .int .i16 X.pep, .int .i32 X.seq] 30) = w12 at *
  refine (ob_all (Y8.out.below B12.out) (by omega)).mono ?_
  rintro r w13 ⟨v13, rfl, ho13, hb13⟩
  have O13 := Lib.hid ho13
  have B13 := Lib.hid hb13
  obtain ⟨A13, c13, rfl⟩ := ho13.slice
  clear ho13 hb13
  go_wp2_with fail
  go_loopw [22, 127] (fun a i wr => ∃ (m : Nat) (xs : List Value), i = .int .i64 (m : Int) ∧ m ≤ L.length ∧ Owns wr w12.heap.size 30 8 (.slice A13 L.length c13) L.length xs ∧ Below w12.heap.size w12 wr) (fun _ i _ => L.length - (intOf i).toNat)
  case atStart => exact ⟨0, _, rfl, Nat.zero_le _, O13.out, B13.out⟩
  case round =>
  obtain ⟨m, xs, rfl, hmn, hown, hbr⟩ := hrel
  have OWN := Lib.hid hown
  have BR := Lib.hid hbr
  clear hown hbr O13 B13
  by_cases hlt : m < L.length
  · obtain ⟨g13, cap', hv, hgB, hgl, hnc, _, _⟩ := OWN.out.form (by omega)
    injection hv with hA hcc
    subst hA
    clear hcc
    obtain ⟨u0, k0⟩ := OWN.out.cell (m * 8) (by omega)
    obtain ⟨u4, k4⟩ := OWN.out.cell (m * 8 + 4) (by omega)
    have hfz := OWN.out.free (by omega)
    have f0 := hfz (m * 8)
    have f4 := hfz (m * 8 + 4)
    have hq1 : (0 : Int) ≤ (m : Int) := by omega
    have hq2 : (m : Int) < (L.length : Int) := by omega
    clear hfz
    go_wp2_with fail
    go_roundw
    case rel => exact ⟨m + 1, _, by go_num, by omega, (OWN.out.store (m * 8) _).store (m * 8 + 4) _, Below.setCell (Below.setCell BR.out (p := ⟨g13, m * 8, none⟩) hgB _) (p := ⟨g13, m * 8 + 4, none⟩) hgB _⟩
    case measure => simp [intOf]; omega
  · have hmn2 : m = L.length := by omega
    subst hmn2
    go_wp2_with (at_builtin; refine wpList_push_ent rfl _ _ rfl wr w12.heap.size BR.out.size (.slice A13 L.length c13) xs L.length ⟨0, 1, 0, 0, 0, 0, 0, 0⟩ rfl rfl OWN.out (by omega) ?_; intro v14 w14 hown14 hk14 hs14; obtain ⟨A14, c14, rfl⟩ := hown14.slice; have B14 := Lib.hid (BR.out.trans (hk14.below BR.out.size fun k hk => (OWN.out.lt k hk).1)); clear hown14 hk14 hs14)
    have BC14 : Hid (Below wc.heap.size wc w14) := B12.out.trans (B14.out.mono B12.out.size)
    refine (ob_all (Y8.out.below BC14.out) (by omega)).mono ?_
    rintro r w15 ⟨v15, rfl, ho15, hb15⟩
    obtain ⟨A15, c15, rfl⟩ := ho15.slice
    have R15 := Lib.hid ho15.row
    have BC15 : Hid (Below wc.heap.size wc w15) := step_bel BC14.out hb15
    have RA15 : Hid (Row w15 A5 L) := (O8.out.kept (S := fun _ => False) (Kept.of_below BC15.out) (fun _ _ h => h)).row
    clear ho15 hb15
    go_wp2_with fail
    refine (alike_any w15 L A15 A5 c15 c5 L.length rfl (by omega) R15.out RA15.out).mono ?_
    rintro r w16 ⟨rfl, h16⟩
    have BC16 : Hid (Below wc.heap.size wc w16) := step_bel BC15.out h16
    clear h16 R15 RA15
    go_wp2_with fail
    refine (ob_next (XL.out.below BC16.out) (by omega)).mono ?_
    rintro r w17 ⟨rfl, h17⟩
    have BC17 : Hid (Below wc.heap.size wc w17) := step_bel BC16.out h17
    clear h17
    go_wp2_with fail
    refine (ob_size (XL.out.below BC17.out) (by omega)).mono ?_
    rintro r w18 ⟨rfl, h18⟩
    have BC18 : Hid (Below wc.heap.size wc w18) := step_bel BC17.out h18
    clear h18
    have hbox := boxAt w18 ⟨nextOf base M, 1, sizeOf M, 1, t, 0, 0, 0⟩
    simp only at hbox
    have ZB := Lib.hid hbox
    have BC19 : Hid (Below wc.heap.size wc (w18.alloc (.cells #[.int .i64 (nextOf base M), .int .i64 1, .int .i64 (sizeOf M), .int .i64 1, .int .i64 t, .int .i64 0, .int .i16 0, .int .i32 0] 30))) := step_bel BC18.out ((Below.refl _ _).alloc (Nat.le_refl _) _)
    have L19 : Hid (w18.heap.size < (w18.alloc (.cells #[.int .i64 (nextOf base M), .int .i64 1, .int .i64 (sizeOf M), .int .i64 1, .int .i64 t, .int .i64 0, .int .i16 0, .int .i32 0] 30)).heap.size) := (Array.getElem?_eq_some_iff.1 ZB.out).1
    clear hbox
    go_wp2_with fail
    generalize w18.alloc (.cells #[.int .i64 (nextOf base M), .int .i64 1, .int .i64 (sizeOf M), .int .i64 1, .int .i64 t, .int .i64 0, .int .i16 0, .int .i32 0] 30) = w19 at *
    refine (ob_add (XL.out.below BC19.out) ⟨nextOf base M, 1, sizeOf M, 1, t, 0, 0, 0⟩ (by omega)).mono ?_
    rintro r w20 ⟨rfl, hx20, hk20⟩
    have SZ2 : Hid (w7.heap.size ≤ w18.heap.size ∧ w18.heap.size < w19.heap.size ∧ w19.heap.size ≤ w20.heap.size) := ⟨Nat.le_trans S8.out BC18.out.size, L19.out, hk20.size⟩
    have X20 := Lib.hid hx20.lt
    have N20 : Hid (Obj w20 gf base M (fun k => w5.heap.size ≤ k ∧ k < w6.heap.size)) := (N8.out.below BC19.out).kept hk20 fun k hk hx => by have := SZ.out; omega
    have Z20 : Hid (BoxAt w20 w18.heap.size ⟨nextOf base M, 1, sizeOf M, 1, t, 0, 0, 0⟩) := (hk20.block _ L19.out (fun hx => by have := SZ2.out; omega)).trans ZB.out
    have B20 : Hid (Below w.heap.size w w20) := (B8.out.trans (BC19.out.mono B8.out.size)).trans (hk20.below (Nat.le_trans B8.out.size BC19.out.size) fun k hk => by have := SZ.out; omega)
    clear hx20 hk20
    have hlm : (addTo base M ⟨nextOf base M, 1, sizeOf M, 1, t, 0, 0, 0⟩).length ≤ 1048577 := by
      rw [addTo_len]; split <;> omega
    obtain ⟨z0, z1, z2, z3, z4, z5, z6, z7⟩ := Z20.out.ent
    simp only at z0 z1 z2 z3 z4 z5 z6 z7
    go_wp2_with fail
    refine (ob_add N20.out ⟨nextOf base M, 1, sizeOf M, 1, t, 0, 0, 0⟩ (by omega)).mono ?_
    rintro r w21 ⟨rfl, hn21, hk21⟩
    have X21 := Lib.hid (X20.out.kept hk21 fun k hk hx => by have := SZ.out; have := SZ2.out; omega)
    have N21 := Lib.hid hn21
    have B21 : Hid (Below w.heap.size w w21) := B20.out.trans (hk21.below B20.out.size fun k hk => by have := SZ.out; omega)
    clear hn21 hk21 z0 z1 z2 z3 z4 z5 z6 z7
    generalize addTo base M ⟨nextOf base M, 1, sizeOf M, 1, t, 0, 0, 0⟩ = M2 at *
    generalize addE base M ⟨nextOf base M, 1, sizeOf M, 1, t, 0, 0, 0⟩ = er at *
    go_wp2_with fail
    refine (ob_all X21.out (by omega)).mono ?_
    rintro r w22 ⟨v22, rfl, ho22, hb22⟩
    obtain ⟨A22, c22, rfl⟩ := ho22.slice
    have R22 := Lib.hid ho22.row
    have N22 := Lib.hid (N21.out.below hb22)
    have B22 := Lib.hid (B21.out.trans (hb22.mono B21.out.size))
    clear ho22 hb22
    go_wp2_with fail
    refine (ob_all N22.out (by omega)).mono ?_
    rintro r w23 ⟨v23, rfl, ho23, hb23⟩
    obtain ⟨A23, c23, rfl⟩ := ho23.slice
    have R23 := Lib.hid ho23.row
    have RR23 := Lib.hid (R22.out.below' hb23)
    have B23 := Lib.hid (B22.out.trans (hb23.mono B22.out.size))
    clear ho23 hb23
    go_wp2_with fail
    refine (alike_any w23 M2 A22 A23 c22 c23 M2.length rfl (by omega) RR23.out R23.out).mono ?_
    rintro r w24 ⟨rfl, h24⟩
    have B24 := Lib.hid (B23.out.trans (h24.mono B23.out.size))
    clear h24
    go_wp2_with fail
    go_ret
    exact ⟨rfl, B24.out⟩
end Go.Proofs.Ytomlhedichdkkaa
