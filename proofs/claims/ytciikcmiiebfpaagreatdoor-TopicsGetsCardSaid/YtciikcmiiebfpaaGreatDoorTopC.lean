/- topics: the configuration's check. -/
import Derived.Test.YtciikcmiiebfpaaGreatDoorPlogO
namespace Go.Proofs.YtciikcmiiebfpaaGreatDoor
open Go Go.RowKit Go.Maps Go.Proofs.YtciikcmiiebfpaaGreatDoorW.PrintWords Go.Proofs.YtciikcmiiebfpaaGreatDoor.PTopicsGets Go.Proofs.YtciikcmiiebfpaaGreatDoorW.PrintMore
set_option linter.unusedVariables false
set_option linter.unusedSimpArgs false

/-- A topic of a configuration. -/
structure Conf where
  nm : ByteArray
  pt : Int
def Conf.val (c : Conf) : Value := .agg #[.string c.nm, .int .i64 c.pt]
/-- A row of topics that reads so. -/
def CRow (w : World) (A : Option Addr) (n : Nat) (cs : List Conf) : Prop :=
  n = cs.length ∧ ∀ i c, cs[i]? = some c → ∃ b o, A = some ⟨b, o, none⟩ ∧ b < w.heap.size ∧ w.cell? ⟨b, o + i * 2, none⟩ = some (.string c.nm) ∧ w.cell? ⟨b, o + i * 2 + 1, none⟩ = some (.int .i64 c.pt)
theorem CRow.below {w w' : World} {A : Option Addr} {n : Nat} {cs : List Conf} (h : CRow w A n cs) (hb : Below w.heap.size w w') : CRow w' A n cs :=
  ⟨h.1, fun i c hi => by
    obtain ⟨b, o, e, hl, h1, h2⟩ := h.2 i c hi
    exact ⟨b, o, e, Nat.lt_of_lt_of_le hl hb.size, (hb.cell (p := ⟨b, o + i * 2, none⟩) hl).trans h1, (hb.cell (p := ⟨b, o + i * 2 + 1, none⟩) hl).trans h2⟩⟩
theorem CRow.take {w : World} {A : Option Addr} {n : Nat} {cs : List Conf} (h : CRow w A n cs) (j : Nat) (hj : j ≤ n) : CRow w A j (cs.take j) :=
  ⟨by rw [List.length_take, ← h.1]; omega, fun i c hi => by
    rw [List.getElem?_take] at hi
    split at hi
    · exact h.2 i c hi
    · cases hi⟩

/-- The first error of a topic behind others. -/
def checkAt (pre : List Conf) (c : Conf) : Int :=
  if Lb.topicE c.nm ≠ 0 then (Lb.topicE c.nm : Nat) else if c.pt < 1 ∨ 16 < c.pt then 3 else if pre.any (fun o => o.nm.toList == c.nm.toList) then 184 else if pre.any (fun o => Lb.clashB o.nm c.nm) then 231 else 0
def checkL : List Conf → List Conf → Int
  | _, [] => 0
  | pre, c :: r => if checkAt pre c ≠ 0 then checkAt pre c else checkL (pre ++ [c]) r
def checkE (cs : List Conf) : Int := if 8 < cs.length then 9 else checkL [] cs
theorem checkL_step {cs : List Conf} {j : Nat} {c : Conf} (h : cs[j]? = some c) : checkL (cs.take j) (cs.drop j) = if checkAt (cs.take j) c ≠ 0 then checkAt (cs.take j) c else checkL (cs.take (j + 1)) (cs.drop (j + 1)) := by
  obtain ⟨hlt, he⟩ := List.getElem?_eq_some_iff.1 h
  rw [List.drop_eq_getElem_cons hlt, he, checkL, List.take_add_one, h]
  rfl

theorem checkAt_topic {pre : List Conf} {c : Conf} (h : Lb.topicE c.nm ≠ 0) : checkAt pre c = (Lb.topicE c.nm : Nat) := by unfold checkAt; rw [if_pos h]
theorem checkAt_pt {pre : List Conf} {c : Conf} (h : Lb.topicE c.nm = 0) (hp : c.pt < 1 ∨ 16 < c.pt) : checkAt pre c = 3 := by unfold checkAt; rw [if_neg (fun h2 => h2 h), if_pos hp]
theorem checkAt_ok {pre : List Conf} {c : Conf} (h : Lb.topicE c.nm = 0) (hp : ¬ (c.pt < 1 ∨ 16 < c.pt)) : checkAt pre c = if pre.any (fun o => o.nm.toList == c.nm.toList) then 184 else if pre.any (fun o => Lb.clashB o.nm c.nm) then 231 else 0 := by
  unfold checkAt; rw [if_neg (fun h2 => h2 h), if_neg hp]
theorem cbox_0 {w : World} {g : Nat} {a b : Value} (h : w.heap[g]? = some (.cells #[a, b] 48 (0, 0))) : w.cell? ⟨g, 0, none⟩ = some a := blk_cell h 0
theorem cbox_1 {w : World} {g : Nat} {a b : Value} (h : w.heap[g]? = some (.cells #[a, b] 48 (0, 0))) : w.cell? ⟨g, 1, none⟩ = some b := blk_cell h 1

set_option maxRecDepth 100000 in
theorem idx_any (w : World) (A : Option Addr) (n c : Nat) (cs : List Conf) (h : CRow w A n cs) (hn : n ≤ 100000) (p : Conf → Bool) (K : Nat) (caps : Array Value) (e1 : ∀ args w, (callFunc K args).run Tryz.prog w = .ok (.enter K args) w)
    (hp : ∀ W, Below w.heap.size w W → ∀ x ∈ cs, Calls Tryz.prog K (#[.agg #[.string x.nm, .int .i64 x.pt]] ++ caps) W fun r w' => r = .returned (.bool (p x)) ∧ Below W.heap.size W w') :
    Calls Tryz.prog 84 #[.slice A n c, .func (.func K) #[] caps] w fun r w' => (∃ i : Int, r = .returned (.int .i64 i) ∧ -1 ≤ i ∧ i ≤ 100000 ∧ decide (0 ≤ i) = cs.any p) ∧ Below w.heap.size w w' := by
  have HR := Lib.hid h
  have HP := Lib.hid hp
  clear h hp
  go_enter Tryz.func84, Tryz.ntmps84
  go_wp2_with fail
  go_loopw [5, 8] (fun _ i wr => ∃ j : Nat, j ≤ n ∧ i = .int .i64 j ∧ Hid (Below w.heap.size w wr) ∧ Hid ((cs.take j).any p = false)) (fun _ i _ => n - (intOf i).toNat)
  case atStart => exact ⟨0, Nat.zero_le _, rfl, Below.refl _ _, by show _ = _; rw [List.take_zero]; rfl⟩
  case round =>
    obtain ⟨j, hj, rfl, HB, HF⟩ := hrel
    by_cases hjn : j < n
    · obtain ⟨x, hx⟩ : ∃ x, cs[j]? = some x := ⟨_, List.getElem?_eq_getElem (by have := HR.out.1; omega)⟩
      obtain ⟨b, o, rfl, hbl0, hc0, hc1⟩ := HR.out.2 j x hx
      have hbl := Nat.lt_of_lt_of_le hbl0 HB.out.size
      have k0 := (HB.out.cell (p := ⟨b, o + j * 2, none⟩) hbl0).trans hc0
      have k1 := (HB.out.cell (p := ⟨b, o + j * 2 + 1, none⟩) hbl0).trans hc1
      have HC := Lib.hid (HP.out _ HB.out x (List.mem_of_getElem? hx))
      have HT : Hid ((cs.take (j + 1)).any p = p x) := by show _ = _; rw [List.take_add_one, hx, List.any_append, HF.out]; simp
      have HA : Hid (p x = true → cs.any p = true) := fun hh => List.any_eq_true.2 ⟨x, List.mem_of_getElem? hx, hh⟩
      clear hbl0 hc0 hc1 hx
      obtain ⟨q, hq⟩ : ∃ q, q = p x := ⟨_, rfl⟩
      rw [← hq] at HC HT HA
      clear hq
      cases q with
      | true =>
        go_wp2_with fail
        refine HC.out.mono ?_
        rintro r w2 ⟨rfl, hb2⟩
        have HB2 : Hid (Below w.heap.size w w2) := HB.out.trans (hb2.mono HB.out.size)
        clear hb2
        go_wp2_with fail
        go_ret
        exact ⟨⟨_, rfl, by omega, by omega, by rw [HA.out (by first | trivial | rfl)]; simp⟩, HB2.out⟩
      | false =>
        go_wp2_with fail
        refine HC.out.mono ?_
        rintro r w2 ⟨rfl, hb2⟩
        have HB2 : Hid (Below w.heap.size w w2) := HB.out.trans (hb2.mono HB.out.size)
        clear hb2
        go_wp2_with fail
        go_roundw
        case rel => exact ⟨j + 1, by omega, by go_num, HB2.out, HT.out⟩
        case measure => simp [intOf]; omega
    · obtain rfl : j = n := by omega
      have HN : Hid (cs.any p = false) := by
        have := HF.out
        rw [HR.out.1, List.take_length] at this
        exact this
      go_wp2_with fail
      go_ret
      exact ⟨⟨_, rfl, by omega, by omega, by rw [HN.out]; decide⟩, HB.out⟩
theorem cont_any (w : World) (A : Option Addr) (n c : Nat) (cs : List Conf) (h : CRow w A n cs) (hn : n ≤ 100000) (p : Conf → Bool) (K : Nat) (caps : Array Value) (e1 : ∀ args w, (callFunc K args).run Tryz.prog w = .ok (.enter K args) w)
    (hp : ∀ W, Below w.heap.size w W → ∀ x ∈ cs, Calls Tryz.prog K (#[.agg #[.string x.nm, .int .i64 x.pt]] ++ caps) W fun r w' => r = .returned (.bool (p x)) ∧ Below W.heap.size W w') :
    Calls Tryz.prog 39 #[.slice A n c, .func (.func K) #[] caps] w fun r w' => r = .returned (.bool (cs.any p)) ∧ Below w.heap.size w w' := by
  have HC := Lib.hid (idx_any w A n c cs h hn p K caps e1 hp)
  clear h hp
  go_enter Tryz.func39, Tryz.ntmps39
  go_wp2_with fail
  refine HC.out.mono ?_
  rintro r w2 ⟨⟨i, rfl, h1, h2, h3⟩, hb2⟩
  have HB2 := Lib.hid hb2
  have H3 := Lib.hid h3
  clear hb2 h3
  go_wp2_with fail
  go_ret
  exact ⟨by rw [← H3.out]; rfl, HB2.out⟩

set_option maxRecDepth 100000 in
theorem clos1_any (w : World) (B : Nat) (o : Conf) (nm : ByteArray) (h : w.cell? ⟨B, 0, none⟩ = some (.string nm)) (hB : B < w.heap.size) :
    Calls Tryz.prog 40 #[.agg #[.string o.nm, .int .i64 o.pt], .pointer (some ⟨B, 0, none⟩)] w fun r w' => r = .returned (.bool (o.nm.toList == nm.toList)) ∧ Below w.heap.size w w' := by
  have hb0 : Below w.heap.size w (w.alloc (.cells #[.string o.nm, .int .i64 o.pt] 48)) := (Below.refl _ _).alloc (Nat.le_refl _) _
  have HB := Lib.hid hb0
  have hc := (hb0.cell (p := ⟨B, 0, none⟩) hB).trans h
  clear hb0
  go_enter Tryz.func40, Tryz.ntmps40
  go_wp2_with fail
  go_ret
  exact ⟨rfl, HB.out⟩
set_option maxRecDepth 100000 in
theorem clos2_any (w : World) (hl : Lb.LibOk w) (B : Nat) (o : Conf) (nm : ByteArray) (h : w.cell? ⟨B, 0, none⟩ = some (.string nm)) (hB : B < w.heap.size) (h1 : o.nm.size ≤ 140737488351232) (h2 : nm.size ≤ 140737488351232) :
    Calls Tryz.prog 41 #[.agg #[.string o.nm, .int .i64 o.pt], .pointer (some ⟨B, 0, none⟩)] w fun r w' => r = .returned (.bool (Lb.clashB o.nm nm)) ∧ Below w.heap.size w w' := by
  have hb0 : Below w.heap.size w (w.alloc (.cells #[.string o.nm, .int .i64 o.pt] 48)) := (Below.refl _ _).alloc (Nat.le_refl _) _
  have HB := Lib.hid hb0
  have HC := Lib.hid (Lb.clash_any o.nm nm _ h1 h2 (hl.below hb0))
  have hc := (hb0.cell (p := ⟨B, 0, none⟩) hB).trans h
  clear hb0 hl
  go_enter Tryz.func41, Tryz.ntmps41
  go_wp2_with fail
  refine HC.out.mono ?_
  rintro r w2 ⟨rfl, hb2⟩
  have HB2 := Lib.hid (HB.out.trans (hb2.mono HB.out.size))
  clear hb2
  go_wp2_with fail
  go_ret
  exact ⟨rfl, HB2.out⟩

set_option maxRecDepth 100000 in
set_option maxHeartbeats 2000000 in
theorem check_any (w : World) (A : Option Addr) (n c : Nat) (cs : List Conf) (h : CRow w A n cs) (hnc : n ≤ c) (hn : n ≤ 9223372036854775807) (hok : ∀ x ∈ cs, x.nm.size ≤ 140737488351232) (hl : Lb.LibOk w) :
    Calls Tryz.prog 17 #[.slice A n c] w fun r w' => r = .returned (.int .i64 (checkE cs)) ∧ Below w.heap.size w w' := by
  have HL := Lib.hid hl
  have HR := Lib.hid h
  have HOK := Lib.hid hok
  have HN : Hid (n = cs.length) := h.1
  clear h hok hl
  by_cases h8 : 8 < n
  · have HE : Hid (checkE cs = 9) := by show _ = _; unfold checkE; rw [if_pos (by rw [← HN.out]; exact h8)]
    go_enter Tryz.func17, Tryz.ntmps17
    go_wp2_with fail
    go_ret
    exact ⟨by rw [HE.out]; rfl, Below.refl _ _⟩
  have HE : Hid (checkE cs = checkL [] cs) := by show _ = _; unfold checkE; rw [if_neg (by rw [← HN.out]; exact h8)]
  have e1 : ∀ args w, (callFunc 40 args).run Tryz.prog w = .ok (.enter 40 args) w := enters_of Tryz.func40 (by kernel_rfl) rfl
  have e2 : ∀ args w, (callFunc 41 args).run Tryz.prog w = .ok (.enter 41 args) w := enters_of Tryz.func41 (by kernel_rfl) rfl
  go_enter Tryz.func17, Tryz.ntmps17
  go_wp2_with fail
  go_loopw [3, 4, 5, 11] (fun _ _ _ i wr => ∃ j : Nat, j ≤ n ∧ i = .int .i64 j ∧ Hid (Below w.heap.size w wr) ∧ Hid (checkE cs = checkL (cs.take j) (cs.drop j))) (fun _ _ _ i _ => n - (intOf i).toNat)
  case atStart => exact ⟨0, Nat.zero_le _, rfl, Below.refl _ _, HE.out⟩
  case round =>
    clear HE
    obtain ⟨j, hj, rfl, HB, HE⟩ := hrel
    by_cases hjn : j < n
    · obtain ⟨x, hx⟩ : ∃ x, cs[j]? = some x := ⟨_, List.getElem?_eq_getElem (by have := HN.out; omega)⟩
      obtain ⟨b, o, rfl, hbl0, hc0, hc1⟩ := HR.out.2 j x hx
      have hbl := Nat.lt_of_lt_of_le hbl0 HB.out.size
      have k0 := (HB.out.cell (p := ⟨b, o + j * 2, none⟩) hbl0).trans hc0
      have k1 := (HB.out.cell (p := ⟨b, o + j * 2 + 1, none⟩) hbl0).trans hc1
      have hxs := HOK.out x (List.mem_of_getElem? hx)
      have hst := checkL_step hx
      rw [← HE.out] at hst
      have HST := Lib.hid hst
      have HBX : Hid ((wr.alloc (.cells #[.string x.nm, .int .i64 x.pt] 48)).heap[wr.heap.size]? = some (.cells #[.string x.nm, .int .i64 x.pt] 48 (0, 0))) := blk_new _ _
      have HB0 : Hid (Below w.heap.size w (wr.alloc (.cells #[.string x.nm, .int .i64 x.pt] 48))) := HB.out.alloc HB.out.size _
      have HT := Lib.hid (Lb.topic_any x.nm (wr.alloc (.cells #[.string x.nm, .int .i64 x.pt] 48)) hxs)
      have HXS := Lib.hid hxs
      clear hbl0 hc0 hc1 hx hst hxs
      obtain ⟨nm, pt⟩ := x
      dsimp only at k0 k1 HBX HB0 HT HXS
      by_cases ht : Lb.topicE nm = 0
      · rw [ht] at HT
        by_cases hp : pt < 1 ∨ 16 < pt
        · have HA : Hid (checkE cs = 3) := by show _ = _; rw [HST.out, checkAt_pt ht hp, if_pos (by decide)]
          go_wp2_with fail
          refine HT.out.mono ?_
          rintro r w2 ⟨rfl, hb2⟩
          have hbx := blk_below HBX.out hb2
          have q0 := cbox_0 hbx
          have q1 := cbox_1 hbx
          have HB2 := Lib.hid (HB0.out.trans (hb2.mono HB0.out.size))
          clear hb2 hbx k0 k1
          rcases hp with hp | hp
          · go_wp2_with fail
            go_ret
            exact ⟨by rw [HA.out]; rfl, HB2.out⟩
          · have hp1 : ¬ pt < 1 := by omega
            go_wp2_with fail
            go_ret
            exact ⟨by rw [HA.out]; rfl, HB2.out⟩
        · have hp1 : ¬ pt < 1 := by omega
          have hp2 : ¬ 16 < pt := by omega
          have HCT : Hid (∀ W, Below w.heap.size w W → CRow W (some ⟨b, o, none⟩) j (cs.take j)) := fun W hb => (HR.out.below hb).take j hj
          have HLT : Hid (∀ W, Below w.heap.size w W → Lb.LibOk W) := fun W hb => HL.out.below hb
          go_wp2_with fail
          refine HT.out.mono ?_
          rintro r w2 ⟨rfl, hb2⟩
          have hbx := blk_below HBX.out hb2
          have q0 := cbox_0 hbx
          have q1 := cbox_1 hbx
          have HB2 := Lib.hid (HB0.out.trans (hb2.mono HB0.out.size))
          have HBX2 := Lib.hid hbx
          clear hb2 hbx k0 k1
          go_wp2_with fail
          have hc1 := cont_any w2 (some ⟨b, o, none⟩) j c (cs.take j) (HCT.out w2 HB2.out) (by omega) (fun o => o.nm.toList == nm.toList) 40 #[.pointer (some ⟨wr.heap.size, 0, none⟩)] e1 (fun W hb x hx => clos1_any W wr.heap.size x nm ((hb.cell (p := ⟨wr.heap.size, 0, none⟩) (blk_lt HBX2.out)).trans q0) (Nat.lt_of_lt_of_le (blk_lt HBX2.out) hb.size))
          have HC1 := Lib.hid hc1
          have HAK := Lib.hid (checkAt_ok (pre := cs.take j) (c := ⟨nm, pt⟩) ht hp)
          clear hc1
          obtain ⟨a1, ha1⟩ : ∃ a1, a1 = (cs.take j).any (fun o => o.nm.toList == nm.toList) := ⟨_, rfl⟩
          obtain ⟨a2, ha2⟩ : ∃ a2, a2 = (cs.take j).any (fun o => Lb.clashB o.nm nm) := ⟨_, rfl⟩
          have HA2 := Lib.hid ha2
          dsimp only at HAK
          rw [← ha1] at HC1 HAK
          rw [← ha2] at HAK
          clear ha1 ha2
          refine HC1.out.mono ?_
          rintro r w3 ⟨rfl, hb3⟩
          have hbx3 := blk_below HBX2.out hb3
          have q0 := cbox_0 hbx3
          have HB3 := Lib.hid (HB2.out.trans (hb3.mono HB2.out.size))
          have HBX3 := Lib.hid hbx3
          clear hb3 hbx3
          cases a1 with
          | true =>
            have HA : Hid (checkE cs = 184) := by show _ = _; rw [HST.out, HAK.out]; rfl
            go_wp2_with fail
            go_ret
            exact ⟨by rw [HA.out]; rfl, HB3.out⟩
          | false =>
            have HMT : Hid (∀ x ∈ cs.take j, x.nm.size ≤ 140737488351232) := fun x hx => HOK.out x (List.mem_of_mem_take hx)
            go_wp2_with fail
            have hc2 := cont_any w3 (some ⟨b, o, none⟩) j c (cs.take j) (HCT.out w3 HB3.out) (by omega) (fun o => Lb.clashB o.nm nm) 41 #[.pointer (some ⟨wr.heap.size, 0, none⟩)] e2 (fun W hb x hx => clos2_any W (HLT.out W (HB3.out.trans (hb.mono HB3.out.size))) wr.heap.size x nm ((hb.cell (p := ⟨wr.heap.size, 0, none⟩) (blk_lt HBX3.out)).trans q0) (Nat.lt_of_lt_of_le (blk_lt HBX3.out) hb.size) (HMT.out x hx) HXS.out)
            rw [← HA2.out] at hc2
            refine hc2.mono ?_
            clear hc2
            rintro r w4 ⟨rfl, hb4⟩
            have HB4 := Lib.hid (HB3.out.trans (hb4.mono HB3.out.size))
            clear hb4
            cases a2 with
            | true =>
              have HA : Hid (checkE cs = 231) := by show _ = _; rw [HST.out, HAK.out]; rfl
              go_wp2_with fail
              go_ret
              exact ⟨by rw [HA.out]; rfl, HB4.out⟩
            | false =>
              have HA : Hid (checkE cs = checkL (cs.take (j + 1)) (cs.drop (j + 1))) := by show _ = _; rw [HST.out, HAK.out]; rfl
              go_wp2_with fail
              go_roundw
              case rel => exact ⟨j + 1, by omega, by go_num, HB4.out, HA.out⟩
              case measure => simp [intOf]; omega
      · have hne : (((Lb.topicE nm : Nat) : Int) != 0) = true := by rw [bne_iff_ne]; omega
        have HA : Hid (checkE cs = (Lb.topicE nm : Nat)) := by show _ = _; rw [HST.out, checkAt_topic ht, if_pos (by show ((Lb.topicE nm : Nat) : Int) ≠ 0; omega)]
        go_wp2_with fail
        refine HT.out.mono ?_
        rintro r w2 ⟨rfl, hb2⟩
        have HB2 := Lib.hid (HB0.out.trans (hb2.mono HB0.out.size))
        clear hb2
        go_wp2_with fail
        go_ret
        exact ⟨by rw [HA.out]; rfl, HB2.out⟩
    · obtain rfl : j = n := by omega
      have HST2 : Hid (checkE cs = 0) := by show _ = _; rw [HE.out, HN.out, List.drop_length]; rfl
      go_wp2_with fail
      go_ret
      exact ⟨by rw [HST2.out]; rfl, HB.out⟩
end Go.Proofs.YtciikcmiiebfpaaGreatDoor
