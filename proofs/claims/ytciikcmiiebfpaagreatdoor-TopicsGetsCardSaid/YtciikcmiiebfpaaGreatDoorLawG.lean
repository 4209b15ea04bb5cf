/- LawT, LawG as one text (a claim holds at most 60 files). -/
import Derived.Test.YtciikcmiiebfpaaGreatDoorLawTP

/- LawT -/
section
/- TopicsGets: the walk of the law's example (alive). -/
namespace Go.Proofs.YtciikcmiiebfpaaGreatDoor
open Go Go.RowKit Go.Maps Go.WideMaps Go.Proofs.YtciikcmiiebfpaaGreatDoorW.PrintWords Go.Proofs.YtciikcmiiebfpaaGreatDoor.PTopicsGets Go.Proofs.YtciikcmiiebfpaaGreatDoorW.PrintMore
set_option linter.unusedVariables false
set_option linter.unusedSimpArgs false

set_option maxRecDepth 100000 in
theorem tlist_any {w : World} {tb m n cc : Nat} {ov : Value} {Ac : Option Addr} {l : List SC} (h : TopB w tb (.slice Ac n cc) ov m) (hC : k48.C w Ac n l) (hl : n ≤ 5864062014800) :
    Calls Tryz.prog 15 #[.pointer (some ⟨tb, 0, none⟩)] w fun r w' => (∃ A' c', r = .returned (.slice A' n c')) ∧ Below w.heap.size w w' := by
  have c0 : w.cell? ⟨tb, 0, none⟩ = some (.slice Ac n cc) := blk_cell h 0
  have HC := Lib.hid (clone_conf Ac n cc l w hC (by omega))
  clear h hC
  go_enter Tryz.func15, Tryz.ntmps15
  go_wp2_with fail
  refine HC.out.mono ?_
  rintro r w1 ⟨⟨A', c', rfl, _, _⟩, hb⟩
  have HB := Lib.hid hb
  clear hb
  go_wp2_with fail
  go_ret
  exact ⟨⟨_, _, rfl⟩, HB.out⟩

set_option maxRecDepth 100000 in
set_option maxHeartbeats 8000000 in
theorem alive_ok (w : World) (hl : Lb.LibOk w) (ht : Tab w) : Calls Tryz.prog 4 #[] w fun r w' => r = .returned (.bool true) ∧ Below w.heap.size w w' := by
  have HL := Lib.hid hl
  have HTB := Lib.hid ht
  clear hl ht
  go_enter Tryz.func4, Tryz.ntmps4
  go_wp2_with fail
  refine (new_any w 1048576).mono ?_
  rintro r w1 ⟨d, S, rfl, hD, hS, hb⟩
  have HD := Lib.hid hD
  have HS := Lib.hid hS
  have HSL : Hid (∀ b, S b → b < w1.heap.size) := fun b h => hD.lt h
  have HB1 := Lib.hid hb
  have hb2 : Below w1.heap.size w1 (w1.alloc (.cells #[.string nmIn, .int .i64 2] 48)) := (Below.refl _ _).alloc (Nat.le_refl _) _
  have HB2 := Lib.hid (hb.trans (hb2.mono hb.size))
  have hrow : k48.C (w1.alloc (.cells #[.string nmIn, .int .i64 2] 48)) (some ⟨w1.heap.size, 0, none⟩) 1 confIn := by
    have hx := blk_new w1 (.cells #[.string nmIn, .int .i64 2] 48)
    refine ⟨rfl, by decide, fun _ => ⟨_, rfl, fun j p hj => ?_⟩⟩
    match j, hj with
    | 0, hj =>
      obtain rfl : _ = p := Option.some.inj hj
      refine ⟨_, rfl, k48_mk _ _, fun i u hu => ?_⟩
      match i, hu with
      | 0, hu => obtain rfl := Option.some.inj hu; exact blk_cell hx 0
      | 1, hu => obtain rfl := Option.some.inj hu; exact blk_cell hx 1
  have HOP := Lib.hid (topen_any (w1.alloc (.cells #[.string nmIn, .int .i64 2] 48)) (some ⟨w1.heap.size, 0, none⟩) 1 1 confIn hrow (Nat.le_refl _) (by decide) (fun x hx => by rw [confIn_eq] at hx; obtain rfl := List.mem_singleton.1 hx; show nmIn.size ≤ _; decide) (HL.out.below HB2.out) d 0 S (newD 1048576) (hD.below hb2) rfl rfl (fun b hb3 => Nat.lt_of_lt_of_le (hD.lt hb3) hb2.size))
  have HB12 := Lib.hid hb2
  clear hD hS hb hb2 hrow
  go_wp2_with fail
  refine HOP.out.mono ?_
  rintro r w3 ⟨hb3, h3⟩
  rcases h3 with ⟨h3, _⟩ | ⟨_, w2, tb, m, pls, Ac, cc, ov, ys, rfl, hb2c, hst, hpl, hcc, hco⟩
  · exact absurd check_in h3
  obtain ⟨l0, l1, rfl⟩ := pls_in hpl
  have HB3 := Lib.hid (HB2.out.trans (hb3.mono HB2.out.size))
  have HST := Lib.hid hst
  have HCC := Lib.hid hcc
  have HCO := Lib.hid hco
  have HB2C := Lib.hid hb2c
  have HWS : Hid (w1.heap.size < w2.heap.size) := by have h1 := hb2c.size; have h2 := HB12.out.size; show _ < _; have h4 : (w1.alloc (.cells #[.string nmIn, .int .i64 2] 48)).heap.size = w1.heap.size + 1 := World.size_alloc _ _; omega
  clear hb3 hst hcc hco hb2c hpl HOP
  have hnm : nmIn.size ≤ 140737488351232 := by decide
  have hK : look (mapOf [(nmIn, 0, l0), (nmIn, 1, l1)]) (pk nmIn 1) = some l1 := by rw [map_in]; kernel_rfl
  have hK2 : (look (mapOf [(nmIn, 0, l0), (nmIn, 1, l1)]) (pk nmIn 2)).isSome = false := by rw [map_in]; kernel_rfl
  have HG1 := Lib.hid (tget_any HST.out.bt HST.out.pm nmIn hnm 1 (by decide))
  have e1 : getE (mapOf [(nmIn, 0, l0), (nmIn, 1, l1)]) nmIn 1 = 0 := by unfold getE; rw [if_pos topic_in, hK]; rfl
  have v1 : getV (mapOf [(nmIn, 0, l0), (nmIn, 1, l1)]) nmIn 1 = .pointer (some ⟨l1, 0, none⟩) := by unfold getV; rw [if_pos topic_in, hK]; rfl
  have e2 : getE (mapOf [(nmIn, 0, l0), (nmIn, 1, l1)]) nmIn 2 = 230 := by unfold getE; rw [if_pos topic_in, hK2]; rfl
  have v2 : getV (mapOf [(nmIn, 0, l0), (nmIn, 1, l1)]) nmIn 2 = .pointer none := by
    unfold getV; rw [if_pos topic_in]
    cases hk : look (mapOf [(nmIn, 0, l0), (nmIn, 1, l1)]) (pk nmIn 2) with
    | none => rfl
    | some x => rw [hk] at hK2; cases hK2
  have e3 : getE (mapOf [(nmIn, 0, l0), (nmIn, 1, l1)]) nmBad 0 = 40 := by unfold getE; rw [if_neg topic_bad]
  have v3 : getV (mapOf [(nmIn, 0, l0), (nmIn, 1, l1)]) nmBad 0 = .pointer none := by unfold getV; rw [if_neg topic_bad]
  rw [e1, v1] at HG1
  have HE2 := Lib.hid e2
  have HV2 := Lib.hid v2
  have HE3 := Lib.hid e3
  have HV3 := Lib.hid v3
  have HKK := Lib.hid hK
  clear e1 v1 e2 v2 e3 v3 hK hK2 hnm
  go_wp2_with fail
  refine HG1.out.mono ?_
  rintro r w4 ⟨rfl, hb4⟩
  have HST4 := Lib.hid (HST.out.below hb4)
  have HB4 := Lib.hid (HB3.out.trans (hb4.mono HB3.out.size))
  clear hb4 HST HB3 HG1
  have HG2 := Lib.hid (tget_any HST4.out.bt HST4.out.pm nmIn (by decide) 2 (by decide))
  rw [HE2.out, HV2.out] at HG2
  go_wp2_with fail
  refine HG2.out.mono ?_
  rintro r w5 ⟨rfl, hb5⟩
  have HST5 := Lib.hid (HST4.out.below hb5)
  have HB5 := Lib.hid (HB4.out.trans (hb5.mono HB4.out.size))
  clear hb5 HST4 HB4 HG2
  have HG3 := Lib.hid (tget_any HST5.out.bt HST5.out.pm nmBad (by decide) 0 (by decide))
  rw [HE3.out, HV3.out] at HG3
  go_wp2_with fail
  refine HG3.out.mono ?_
  rintro r w6 ⟨rfl, hb6⟩
  have HST6 := Lib.hid (HST5.out.below hb6)
  have HB6 := Lib.hid (HB5.out.trans (hb6.mono HB5.out.size))
  clear hb6 HST5 HB5 HG3 HE2 HV2 HE3 HV3
  go_wp2_with fail
  refine (one_ok w6).mono ?_
  rintro r w7 ⟨hb7, A7, c7, rfl, hc7, hC7⟩
  have HST7 := Lib.hid (HST6.out.below hb7)
  have HB7 := Lib.hid (HB6.out.trans (hb7.mono HB6.out.size))
  clear hb7 HST6 HB6
  obtain ⟨⟨t0, hlg0⟩, hge0⟩ := HST7.out.lg (nmIn, 0, l0) (by simp)
  obtain ⟨⟨t1, hlg1⟩, hge1⟩ := HST7.out.lg (nmIn, 1, l1) (by simp)
  dsimp only at hlg0 hlg1 hge0 hge1
  obtain ⟨k1, k2, k3, hk⟩ := three_in (nameS (Lb.dirS nmIn 1) 0).data.toList (dir_good topic_in 1 (by decide)).1
  have hws1 := HWS.out
  have hb17 : Below w1.heap.size w1 w7 := by
    have h1 : Below w1.heap.size w1 w2 := HB12.out.trans (HB2C.out.mono HB12.out.size)
    exact h1.trans (HST7.out.bl.mono h1.size)
  have hSl1 : ¬ S l1 := fun h => by have := HSL.out l1 h; omega
  have hSl0 : ¬ S l0 := fun h => by have := HSL.out l0 h; omega
  have hSt : ¬ S tb := fun h => by have := HSL.out tb h; have := HST7.out.tg; omega
  have hSm : ¬ S m := fun h => by have := HSL.out m h; have := HST7.out.mg; omega
  have hne : l0 ≠ l1 := fun e => by
    subst e
    unfold LogB at hlg0 hlg1
    rw [hlg0] at hlg1
    injection hlg1 with hlg1
    injection hlg1 with hlg1 _ _
    have h2 := congrArg (fun a : Array Value => a[1]?) hlg1
    simp at h2
    exact dir_ne h2
  have HAP := Lib.hid (append_one (c := c7) hlg1 (dir_good topic_in 1 (by decide)).2 (HL.out.below HB7.out) (fun W hW => HTB.out.below (HB7.out.trans (hW.below HB7.out.size (fun b hb => hb.elim (HS.out b) (fun e => by have h1 : b = l1 := e; have h2 := HB1.out.size; omega))))) (HD.out.below hb17) (by decide) hSl1 (fun b hb => Nat.lt_of_lt_of_le (HSL.out b hb) hb17.size) hC7 hc7 hk)
  have hntb : tb ≠ l1 := blk_ne HST7.out.bt hlg1 (by decide)
  have hnm : m ≠ l1 := fun e => by
    obtain ⟨es, c, hm⟩ := HST7.out.pm.is_map
    unfold LogB at hlg1
    rw [← e, hm] at hlg1
    cases hlg1
  have hcc7 : k48.C w7 Ac 1 confIn := Kd.C_below HCC.out HST7.out.bl
  have hac : ∀ q, (Value.slice Ac 1 cc).ownBlock = some q → ¬ (S q ∨ q = l1) := fun q hq h => by
    have h1 := HCO.out q hq
    have h0 : (w1.alloc (.cells #[.string nmIn, .int .i64 2] 48)).heap.size = w1.heap.size + 1 := World.size_alloc _ _
    rcases h with h | h
    · have := HSL.out q h; omega
    · have h2 : q < w2.heap.size := by
        have hr := HCC.out
        obtain ⟨a, e, hc⟩ := hr.2.2 (by decide)
        have h3 := hc 0 _ rfl
        obtain ⟨cs, h4, hK, h5⟩ := h3
        have hcs := k48_open hK
        have h6 := h5 0 _ (by rw [hcs]; rfl)
        have h7 := World.block_lt_of_cell? w2 _ h6
        rw [Ix.add_block] at h7
        rw [e] at hq
        have h8 : a.block = q := Option.some.inj hq
        omega
      omega
  have HLG0 := Lib.hid hlg0
  have HNTB := Lib.hid hntb
  have HNM := Lib.hid hnm
  have HCC7 := Lib.hid hcc7
  have HAC := Lib.hid hac
  have HNE := Lib.hid hne
  have HSL0 := Lib.hid hSl0
  have HST' := Lib.hid hSt
  have HSM := Lib.hid hSm
  have HGE1 := Lib.hid hge1
  have HGE0 := Lib.hid hge0
  clear hntb hnm hcc7 hac hlg0 hlg1 hge0 hge1 hk hb17 hSl1 hSl0 hSt hSm hne hC7 hws1
  go_wp2_with fail
  refine HAP.out.mono ?_
  rintro r w8 ⟨rfl, g, A8, c8, ve, vp, hlg8, ho8, hix8, ht8⟩
  have hb8 : Below w.heap.size w w8 := HB7.out.trans (ht8.below HB7.out.size (fun b hb => hb.elim (HS.out b) (fun e => by have h1 : b = l1 := e; have h2 := HB1.out.size; have h3 := HGE1.out; have h4 := HWS.out; omega)))
  have hlg0 : LogB w8 l0 d (Lb.dirS nmIn 0) 100 (.slice none 0 0) t0 false := (ht8.block l0 (blk_lt HLG0.out) (fun h => h.elim HSL0.out HNE.out)).trans HLG0.out
  have htb : TopB w8 tb (.slice Ac 1 cc) ov m := (ht8.block tb (blk_lt HST7.out.bt) (fun h => h.elim HST'.out HNTB.out)).trans HST7.out.bt
  have hpm : PM w8 m [(pk nmIn 0, l0), (pk nmIn 1, l1)] := by
    have h := HST7.out.pm
    rw [map_in] at h
    exact h.kept (ht8.block m h.lt (fun h => h.elim HSM.out HNM.out))
  have hcc8 := conf_tch (c := cc) HCC7.out ht8 HAC.out
  have HB8 := Lib.hid hb8
  have HLG8 := Lib.hid hlg8
  have HLGA := Lib.hid hlg0
  have HO8 := Lib.hid ho8
  have HIX8 := Lib.hid hix8
  have HTB8 := Lib.hid htb
  have HPM8 := Lib.hid hpm
  have HCC8 := Lib.hid hcc8
  obtain ⟨f, hf⟩ : ∃ f : Nat → Int, f = fun l => if l = l1 then 68 else 0 := ⟨_, rfl⟩
  have hf0 : f l0 = 0 := by rw [hf]; dsimp only; rw [if_neg HNE.out]
  have hf1 : f l1 = 68 := by rw [hf]; dsimp only; rw [if_pos rfl]
  have HSZ := Lib.hid (tsize_any htb hpm f (show 2 ≤ 1000 by decide) (fun p hp => by
      rcases List.mem_cons.1 hp with rfl | hp
      · show 0 ≤ f l0 ∧ f l0 ≤ _; rw [hf0]; decide
      · obtain rfl := List.mem_singleton.1 hp
        show 0 ≤ f l1 ∧ f l1 ≤ _; rw [hf1]; decide)
    (fun W hW p hp => by
      rcases List.mem_cons.1 hp with rfl | hp
      · show Calls Tryz.prog _ #[.pointer (some ⟨l0, 0, none⟩)] W fun r w' => r = .returned (.int .i64 (f l0)) ∧ _
        rw [hf0]
        exact psize_none (HLGA.out.below hW)
      · obtain rfl := List.mem_singleton.1 hp
        show Calls Tryz.prog _ #[.pointer (some ⟨l1, 0, none⟩)] W fun r w' => r = .returned (.int .i64 (f l1)) ∧ _
        rw [hf1]
        have h1 := psize_one (HLG8.out.below hW) (Owns_below HO8.out hW) (HIX8.out.below hW) (by decide) (by decide)
        have h2 : Ix.sizeOf [oneE] = 68 := by decide
        rw [h2] at h1
        exact h1))
  have hsum : sumL f [(pk nmIn 0, l0), (pk nmIn 1, l1)] = 68 := by rw [sumL, sumL, sumL]; dsimp only; rw [hf0, hf1]; rfl
  rw [hsum] at HSZ
  clear hlg8 ho8 hix8 ht8 hb8 hlg0 htb hpm hcc8 hf hf0 hf1 hsum HAP
  go_wp2_with fail
  refine HSZ.out.mono ?_
  rintro r w9 ⟨rfl, hb9⟩
  have HB9 := Lib.hid (HB8.out.trans (hb9.mono HB8.out.size))
  have H89 := Lib.hid hb9
  clear hb9 HSZ
  go_wp2_with fail
  refine (one_ok w9).mono ?_
  rintro r w10 ⟨hb10, A10, c10, rfl, hc10, _⟩
  have HB10 := Lib.hid (HB9.out.trans (hb10.mono HB9.out.size))
  have H810 := Lib.hid (H89.out.trans (hb10.mono H89.out.size))
  clear hb10 H89 HB9
  go_wp2_with fail
  refine (tlist_any (blk_below HTB8.out H810.out) (Kd.C_below HCC8.out H810.out) (by decide)).mono ?_
  rintro r w11 ⟨⟨A11, c11, rfl⟩, hb11⟩
  have HB11 := Lib.hid (HB10.out.trans (hb11.mono HB10.out.size))
  have H811 := Lib.hid (H810.out.trans (hb11.mono H810.out.size))
  clear hb11 H810 HB10
  have HDD := Lib.hid (tdead_any (blk_below HTB8.out H811.out) (HPM8.out.below H811.out) (fun _ => false) (show 2 ≤ 1000 by decide) (fun W hW p hp => by
      rcases List.mem_cons.1 hp with rfl | hp
      · exact pdead_any ((HLGA.out.below H811.out).below hW)
      · obtain rfl := List.mem_singleton.1 hp
        exact pdead_any ((HLG8.out.below H811.out).below hW)))
  have hsum : sumL (fun l => if (fun _ : Nat => false) l = true then 1 else 0) [(pk nmIn 0, l0), (pk nmIn 1, l1)] = 0 := by simp [sumL]
  rw [hsum] at HDD
  clear hsum
  go_wp2_with fail
  refine HDD.out.mono ?_
  rintro r w12 ⟨rfl, hb12⟩
  have HB12 := Lib.hid (HB11.out.trans (hb12.mono HB11.out.size))
  clear hb12
  go_wp2_with fail
  go_ret
  exact ⟨rfl, HB12.out⟩
end Go.Proofs.YtciikcmiiebfpaaGreatDoor
end

/- LawG -/
section
/- TopicsGets: the law's walk. -/
namespace Go.Proofs.YtciikcmiiebfpaaGreatDoor
open Go Go.RowKit Go.Maps Go.WideMaps Go.Proofs.YtciikcmiiebfpaaGreatDoorW.PrintWords Go.Proofs.YtciikcmiiebfpaaGreatDoor.PTopicsGets Go.Proofs.YtciikcmiiebfpaaGreatDoorW.PrintMore
set_option linter.unusedVariables false
set_option linter.unusedSimpArgs false

/-- The three ways of Get and of Find. -/
theorem three_ways {pls : List Pl} {cs : List Conf} (hpl : pls.map (fun x => (x.1, x.2.1)) = plAll cs) (hg : ∀ c ∈ cs, Lb.topicE c.nm = 0 ∧ 1 ≤ c.pt ∧ c.pt ≤ 16) (s : ByteArray) (hs : s.size ≤ 140737488351232) (p : Int) (hp : -2147483648 ≤ p ∧ p ≤ 2147483647) :
    (getE (mapOf pls) s p = 40 ∧ getV (mapOf pls) s p = .pointer none ∧ findE (plAll cs) s p = 40 ∧ (decide (Lb.topicE s = 0) && hasPl (plAll cs) s p) = false) ∨
    (getE (mapOf pls) s p = 230 ∧ getV (mapOf pls) s p = .pointer none ∧ findE (plAll cs) s p = 230 ∧ (decide (Lb.topicE s = 0) && hasPl (plAll cs) s p) = false) ∨
    (∃ lb, getE (mapOf pls) s p = 0 ∧ getV (mapOf pls) s p = .pointer (some ⟨lb, 0, none⟩) ∧ findE (plAll cs) s p = 0 ∧ (decide (Lb.topicE s = 0) && hasPl (plAll cs) s p) = true) := by
  by_cases ht : Lb.topicE s = 0
  · have hlk := look_mapOf pls (fun x hx => by
      have h1 : (x.1, x.2.1) ∈ plAll cs := by rw [← hpl]; exact List.mem_map.2 ⟨x, hx, rfl⟩
      obtain ⟨c, hc, h2, h3⟩ := plAll_mem h1
      obtain ⟨h4, h5, h6⟩ := hg c hc
      dsimp only at h2 h3
      rw [h2]
      have h7 := Lb.topic_short h4
      unfold maxLen
      omega) s (by unfold maxLen; omega) p hp
    rw [hpl] at hlk
    cases hk : look (mapOf pls) (pk s p) with
    | none =>
      rw [hk] at hlk
      right; left
      refine ⟨by unfold getE; rw [if_pos ht, hk]; rfl, by unfold getV; rw [if_pos ht, hk]; rfl, by unfold findE; rw [if_pos ht, ← hlk]; rfl, by rw [← hlk]; simp⟩
    | some lb =>
      rw [hk] at hlk
      right; right
      refine ⟨lb, by unfold getE; rw [if_pos ht, hk]; rfl, by unfold getV; rw [if_pos ht, hk]; rfl, by unfold findE; rw [if_pos ht, ← hlk]; rfl, by rw [← hlk, decide_eq_true ht]; rfl⟩
  · left
    refine ⟨by unfold getE; rw [if_neg ht], by unfold getV; rw [if_neg ht], by unfold findE; rw [if_neg ht], by rw [decide_eq_false ht]; rfl⟩
set_option maxRecDepth 100000 in
set_option maxHeartbeats 8000000 in
theorem gets_any (w : World) (A : Option Addr) (n c : Nat) (l : List SC) (hC : k48.C w A n l) (hnc : n ≤ c) (hn : n ≤ 5864062014800) (hok : ∀ x ∈ l, x.f0.size ≤ 140737488351232) (s : ByteArray) (hs : s.size ≤ 140737488351232) (p : Int) (hp : -2147483648 ≤ p ∧ p ≤ 2147483647) (hl : Lb.LibOk w) (ht : Tab w) :
    Calls Tryz.prog 3 #[.slice A n c, .string s, .int .i32 p] w fun r w' => r = .returned (.bool true) ∧ Below w.heap.size w w' := by
  have hokc : ∀ x ∈ confs l, x.nm.size ≤ 140737488351232 := fun x hx => by
    unfold confs at hx
    obtain ⟨y, hy, rfl⟩ := List.mem_map.1 hx
    exact hok y hy
  have HL := Lib.hid hl
  have HTB := Lib.hid ht
  have HC := Lib.hid hC
  have HOK := Lib.hid hokc
  have HAL := Lib.hid (alive_ok w hl ht)
  clear hl ht hC hok hokc
  go_enter Tryz.func3, Tryz.ntmps3
  go_wp2_with fail
  refine HAL.out.mono ?_
  rintro r w1 ⟨rfl, hb1⟩
  have HB1 := Lib.hid hb1
  clear hb1 HAL
  go_wp2_with fail
  refine (new_any w1 1048576).mono ?_
  rintro r w2 ⟨d, S, rfl, hD, hS, hb2⟩
  have HD := Lib.hid hD
  have HSL : Hid (∀ b, S b → b < w2.heap.size) := fun b h => hD.lt h
  have HB2 := Lib.hid (HB1.out.trans (hb2.mono HB1.out.size))
  clear hD hS hb2 HB1
  go_wp2_with fail
  refine (twin_any w2 A n c l (Kd.C_below HC.out HB2.out) hnc hn).mono ?_
  rintro r w3 ⟨⟨A3, c3, rfl, hc3, hC3⟩, hb3⟩
  have HB3 := Lib.hid (HB2.out.trans (hb3.mono HB2.out.size))
  have HOP := Lib.hid (topen_any w3 A3 n c3 l hC3 hc3 hn HOK.out (HL.out.below HB3.out) d 0 S (newD 1048576) (HD.out.below hb3) rfl rfl (fun b hb => Nat.lt_of_lt_of_le (HSL.out b hb) hb3.size))
  clear hb3 hC3 HB2 HD HSL
  go_wp2_with fail
  refine HOP.out.mono ?_
  rintro r w4 ⟨hb4, h4⟩
  have HB4 := Lib.hid (HB3.out.trans (hb4.mono HB3.out.size))
  have HCR := Lib.hid (crow_of HC.out)
  clear hb4 HOP HB3
  by_cases he : checkE (confs l) = 0
  · rcases h4 with ⟨h4, _⟩ | ⟨_, w2c, tb, m, pls, Ac, cc, ov, ys, rfl, hb2c, hst, hpl, _, _⟩
    · exact absurd he h4
    have HST := Lib.hid hst
    have HPL := Lib.hid hpl
    obtain ⟨h8, hgood⟩ := checkE_ok he
    have HG := Lib.hid hgood
    have H8 := Lib.hid h8
    have HE := Lib.hid he
    clear hst hpl hb2c h8 hgood he
    go_wp2_with fail
    refine (rnew_ok w4).mono ?_
    rintro r w5 ⟨hb5, rfl⟩
    have HB5 := Lib.hid (HB4.out.trans (hb5.mono HB4.out.size))
    have HST5 := Lib.hid (HST.out.below hb5)
    have HRO := Lib.hid (ropenT_any w5 A n c (confs l) (HCR.out.below HB5.out) hnc (by omega) HOK.out 1048576)
    clear hb5 HB4 HST
    go_wp2_with fail
    refine HRO.out.mono ?_
    rintro r w6 ⟨hb6, h6⟩
    rcases h6 with ⟨h6, _⟩ | ⟨_, cv, Ap, cp, rfl, hop, Av, nv, cv', rfl⟩
    · exact absurd HE.out h6
    have hB7 : Below w6.heap.size w6 ((w6.alloc (.cells #[.slice none 0 0, .int .i64 1048576, .slice none 0 0, .int .i64 0, .bool false] 34)).alloc (.cells #[.slice Av nv cv', .slice Ap (plAll (confs l)).length cp] 37)) := ((Below.refl _ _).alloc (Nat.le_refl _) _).alloc (by rw [World.size_alloc]; omega) _
    have HB7 := Lib.hid ((HB5.out.trans (hb6.mono HB5.out.size)).trans (hB7.mono (HB5.out.trans (hb6.mono HB5.out.size)).size))
    have HST7 := Lib.hid ((HST5.out.below hb6).below hB7)
    have HOP7 := Lib.hid (Owns_below hop hB7)
    have HX7 : Hid (((w6.alloc (.cells #[.slice none 0 0, .int .i64 1048576, .slice none 0 0, .int .i64 0, .bool false] 34)).alloc (.cells #[.slice Av nv cv', .slice Ap (plAll (confs l)).length cp] 37)).heap[w6.heap.size + 1]? = some (.cells #[.slice Av nv cv', .slice Ap (plAll (confs l)).length cp] 37 (0, 0))) := by
      have := blk_new (w6.alloc (.cells #[.slice none 0 0, .int .i64 1048576, .slice none 0 0, .int .i64 0, .bool false] 34)) (.cells #[.slice Av nv cv', .slice Ap (plAll (confs l)).length cp] 37)
      rw [World.size_alloc] at this
      exact this
    have hpln : (plAll (confs l)).length ≤ 1000 := by
      have h1 := plAll_length (confs l) (fun x hx => (HG.out x hx).2.2)
      have h2 := H8.out
      omega
    have HPLN := Lib.hid hpln
    obtain ⟨np, hnp⟩ : ∃ np, np = (plAll (confs l)).length := ⟨_, rfl⟩
    have HNP := Lib.hid hnp
    rw [← hnp] at HOP7 HX7 HB7 HST7 ⊢
    have hway := three_ways HPL.out HG.out s hs p hp
    have HTG := Lib.hid (tget_any HST7.out.bt HST7.out.pm s hs p hp)
    have HRF : Hid (∀ W, Below ((w6.alloc (.cells #[.slice none 0 0, .int .i64 1048576, .slice none 0 0, .int .i64 0, .bool false] 34)).alloc (.cells #[.slice Av nv cv', .slice Ap np cp] 37)).heap.size ((w6.alloc (.cells #[.slice none 0 0, .int .i64 1048576, .slice none 0 0, .int .i64 0, .bool false] 34)).alloc (.cells #[.slice Av nv cv', .slice Ap np cp] 37)) W → Calls Tryz.prog 11 #[.agg #[.slice Av nv cv', .slice Ap np cp], .string s, .int .i32 p] W fun r w' => (∃ i : Int, r = .returned (.tuple #[.int .i64 i, .int .i64 (findE (plAll (confs l)) s p)]) ∧ decide (0 ≤ i) = (decide (Lb.topicE s = 0) && hasPl (plAll (confs l)) s p)) ∧ Below W.heap.size W w') := fun W hW => rfind_any (by have := Owns_below HOP7.out hW; rw [HNP.out] at this ⊢; exact this) HNP.out HPLN.out s hs p
    clear hb6 hB7 hop hpln hnp HRO HB5 HST5 HOP7 HST7
    go_wp2_with fail
    generalize (w6.alloc (.cells #[.slice none 0 0, .int .i64 1048576, .slice none 0 0, .int .i64 0, .bool false] 34)).alloc (.cells #[.slice Av nv cv', .slice Ap np cp] 37) = W7 at *
    rcases hway with ⟨h1, h2, h3, h4⟩ | ⟨h1, h2, h3, h4⟩ | ⟨lb, h1, h2, h3, h4⟩
    all_goals
      rw [h1, h2] at HTG
      rw [h3, h4] at HRF
      refine HTG.out.mono ?_
      rintro r w8 ⟨rfl, hb8⟩
      have HB8 := Lib.hid (HB7.out.trans (hb8.mono HB7.out.size))
      have HRF8 := Lib.hid (HRF.out w8 hb8)
      have hx8 := blk_below HX7.out hb8
      have x0 : w8.cell? ⟨w6.heap.size + 1, 0, none⟩ = some (.slice Av nv cv') := blk_cell hx8 0
      have x1 : w8.cell? ⟨w6.heap.size + 1, 1, none⟩ = some (.slice Ap np cp) := blk_cell hx8 1
      clear hb8 hx8 HTG HRF h1 h2 h3 h4
      go_wp2_with fail
      refine HRF8.out.mono ?_
      rintro r w9 ⟨⟨i, rfl, hi⟩, hb9⟩
      have HB9 := Lib.hid (HB8.out.trans (hb9.mono HB8.out.size))
      have hi' : decide (0 ≤ i) = decide (0 ≤ i) := rfl
      clear hb9 HRF8 x0 x1
      first
        | (have hlt : 0 ≤ i := of_decide_eq_true hi
           clear hi
           go_wp2_with fail
           go_ret
           refine ⟨?_, HB9.out⟩
           first | rfl | (exact congrArg (fun b => Ending.returned (Value.bool b)) (show (!decide (0 ≤ i)) = true by rw [decide_eq_false (show ¬ 0 ≤ i by omega), Bool.not_false])) | (exact congrArg (fun b => Ending.returned (Value.bool b)) (show decide (0 ≤ i) = true by rw [decide_eq_true (show 0 ≤ i by omega)])))
        | (have hlt : ¬ 0 ≤ i := of_decide_eq_false hi
           clear hi
           go_wp2_with fail
           go_ret
           refine ⟨?_, HB9.out⟩
           first | rfl | (exact congrArg (fun b => Ending.returned (Value.bool b)) (show (!decide (0 ≤ i)) = true by rw [decide_eq_false (show ¬ 0 ≤ i by omega), Bool.not_false])) | (exact congrArg (fun b => Ending.returned (Value.bool b)) (show decide (0 ≤ i) = true by rw [decide_eq_true (show 0 ≤ i by omega)])))
  · rcases h4 with ⟨_, rfl⟩ | ⟨h4, _⟩
    · obtain ⟨ce, hce⟩ : ∃ ce, ce = checkE (confs l) := ⟨_, rfl⟩
      have HCE := Lib.hid hce
      rw [← hce] at he ⊢
      have HE := Lib.hid he
      clear hce he
      go_wp2_with fail
      refine (rnew_ok w4).mono ?_
      rintro r w5 ⟨hb5, rfl⟩
      have HB5 := Lib.hid (HB4.out.trans (hb5.mono HB4.out.size))
      have HRO := Lib.hid (ropenT_any w5 A n c (confs l) (HCR.out.below HB5.out) hnc (by omega) HOK.out 1048576)
      rw [← HCE.out] at HRO
      clear hb5 HB4
      go_wp2_with fail
      refine HRO.out.mono ?_
      rintro r w6 ⟨hb6, h6⟩
      rcases h6 with ⟨_, rfl⟩ | ⟨h6, _⟩
      · have HB6 := Lib.hid (HB5.out.trans (hb6.mono HB5.out.size))
        have hz := HE.out
        have hz2 : (ce != 0) = true := by rw [bne_iff_ne]; exact hz
        clear hb6 HRO HB5
        go_wp2_with fail
        go_ret
        exact ⟨rfl, (HB6.out.alloc HB6.out.size _).alloc (HB6.out.alloc HB6.out.size _).size _⟩
      · exact absurd h6 HE.out
    · exact absurd h4 he
end Go.Proofs.YtciikcmiiebfpaaGreatDoor
end
