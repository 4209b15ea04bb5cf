/- (*file).after: what is safe with the first units made. -/
import Derived.Test.YtkhopknpadncdaaNames
namespace Go.Proofs.Ytkhopknpadncdaa
open Go Go.RowKit Go.Maps Go.Proofs.YtkhopknpadncdaaW.PrintWords Go.Proofs.Ytkhopknpadncdaa.PDiskMemory Go.Proofs.YtkhopknpadncdaaW.PrintMore
set_option linter.unusedVariables false
attribute [local go_sem] max2_int min2_int max_two min_two max_three min_three

set_option maxRecDepth 100000 in
theorem units_one (c : Chg) (A : Option Addr) (n q : Nat) (hn : n = c.add.length) (w : World) : Calls Try.prog 63 #[.agg #[.bool c.cuts, .int .i64 c.to, .slice A n q]] w fun e w' => e = .returned (.int .i64 c.units) ∧ Below w.heap.size w w' := by
  have HB : Hid (Below w.heap.size w (w.alloc (.cells #[.bool c.cuts, .int .i64 c.to, .slice A n q] 98))) := (Below.refl _ _).alloc (Nat.le_refl _) _
  obtain ⟨cuts, to_, add⟩ := c
  simp only at hn HB ⊢
  have HN := Lib.hid hn
  clear hn
  cases cuts with
  | true =>
    go_enter Try.func63, Try.ntmps63
    go_wp2
    go_ret
    exact ⟨rfl, HB.out⟩
  | false =>
    go_enter Try.func63, Try.ntmps63
    go_wp2
    go_ret
    refine ⟨?_, HB.out⟩
    have : (Chg.units ⟨false, to_, add⟩) = (n : Int) := by unfold Chg.units; rw [HN.out]; rfl
    rw [this]
    rfl

/-- A change of a file's row, read. -/
theorem chg_at {w : World} {ok : Nat → Prop} {A : Option Addr} {n c i : Nat} {L : List Chg} {f : Chg} (h : RC w ok (.slice A n c) L) (hf : L[i]? = some f) :
    ∃ g A3 q3, A = some ⟨g, 0, none⟩ ∧ g < w.heap.size ∧ w.cell? ⟨g, i * 3, none⟩ = some (.bool f.cuts) ∧ w.cell? ⟨g, i * 3 + 1, none⟩ = some (.int .i64 f.to) ∧ w.cell? ⟨g, i * 3 + 2, none⟩ = some (.slice A3 f.add.length q3) ∧ RB w ok (.slice A3 f.add.length q3) f.add := by
  have hn := (Kd.R_reads' h).1
  have hi := (List.getElem?_eq_some_iff.1 hf).1
  obtain ⟨g, cap, e, _⟩ := Kd.R_form h (by omega)
  injection e with e1 e2 e3
  subst e1
  obtain ⟨c', hcl, hM, hcc⟩ := Kd.R_getA h ⟨false, 0, []⟩ (i : Int) (by omega) (by omega)
  rw [Int.toNat_natCast] at hM hcc
  rw [List.getD_eq_getElem?_getD, hf, Option.getD_some] at hM
  obtain ⟨c0, c1, e, h0, c2, c3, e2, h2, v, h3, hr⟩ := hM
  have h0' : c0 = [Value.bool f.cuts] := h0
  have h2' : c2 = [Value.int .i64 f.to] := h2
  obtain ⟨A3, q3, e3⟩ := Kd.R_slice hr
  subst h0' h2' h3 e2 e e3
  have e0 : ∀ j, (⟨g, 0, none⟩ : Addr).add (i * kChg.sz + j) = ⟨g, i * 3 + j, none⟩ := fun j => by rw [addr_zero]; rfl
  exact ⟨g, A3, q3, rfl, (by have := World.block_lt_of_cell? w _ (hcc 0 _ rfl); rwa [e0] at this), by have := hcc 0 _ rfl; rw [e0] at this; exact this, by have := hcc 1 _ rfl; rw [e0] at this; exact this, by have := hcc 2 _ rfl; rw [e0] at this; exact this, Kd.R_mono hr (fun k hk => hk.1)⟩

theorem after_stop (s : List Int) (cs : List Chg) {k : Int} (h : k ≤ 0) : after s cs k = s := by
  cases cs with
  | nil => rfl
  | cons c cs => unfold after; rw [if_pos h]
theorem after_cut {s : List Int} {cs : List Chg} {c : Chg} {k : Int} (h : 0 < k) (hc : c.cuts = true) : after s (c :: cs) k = after (s.take c.to.toNat) cs (k - 1) := by
  show (if k ≤ 0 then s else after (if c.cuts then s.take c.to.toNat else s ++ c.add.take (min k c.add.length).toNat) cs (k - c.units)) = _
  rw [if_neg (by omega), if_pos hc, show c.units = 1 by unfold Chg.units; rw [if_pos hc]]
theorem after_add {s : List Int} {cs : List Chg} {c : Chg} {k : Int} (h : 0 < k) (hc : c.cuts = false) : after s (c :: cs) k = after (s ++ c.add.take (min k c.add.length).toNat) cs (k - c.add.length) := by
  show (if k ≤ 0 then s else after (if c.cuts then s.take c.to.toNat else s ++ c.add.take (min k c.add.length).toNat) cs (k - c.units)) = _
  rw [if_neg (by omega), if_neg (by rw [hc]; decide), show c.units = (c.add.length : Int) by unfold Chg.units; rw [if_neg (by rw [hc]; decide)]]

/-- What is still to be made of a file's changes. -/
def Left (f : Fil) (u0 : Int) (s : List Int) (j : Nat) (u : Int) : Prop := after s (f.chs.drop j) u = after f.safe f.chs u0 ∧ (u ≤ 0 ∨ Wf s (f.chs.drop j) f.seen) ∧ s.length ≤ big
theorem Left.next_cut {f : Fil} {u0 u : Int} {s : List Int} {j : Nat} {c : Chg} (h : Left f u0 s j u) (hj : f.chs[j]? = some c) (hu : 0 < u) (hc : c.cuts = true) : Left f u0 (s.take c.to.toNat) (j + 1) (u - 1) ∧ 0 ≤ c.to ∧ c.to ≤ s.length := by
  obtain ⟨hlt, he⟩ := List.getElem?_eq_some_iff.1 hj
  have hd : f.chs.drop j = c :: f.chs.drop (j + 1) := by rw [List.drop_eq_getElem_cons hlt, he]
  obtain ⟨h1, h2, h3⟩ := h
  rw [hd] at h1 h2
  rw [after_cut hu hc] at h1
  rcases h2 with h2 | ⟨_, _, h5, h6⟩
  · omega
  · rw [if_pos hc] at h5
    unfold Chg.app at h6
    rw [if_pos hc] at h6
    exact ⟨⟨h1, .inr h6, Nat.le_trans (List.length_take_le' ..) h3⟩, h5⟩
theorem Left.next_add {f : Fil} {u0 u : Int} {s : List Int} {j : Nat} {c : Chg} (h : Left f u0 s j u) (hj : f.chs[j]? = some c) (hu : 0 < u) (hc : c.cuts = false) : Left f u0 (s ++ c.add.take (min u c.add.length).toNat) (j + 1) (u - c.add.length) ∧ s.length + c.add.length ≤ big := by
  obtain ⟨hlt, he⟩ := List.getElem?_eq_some_iff.1 hj
  have hd : f.chs.drop j = c :: f.chs.drop (j + 1) := by rw [List.drop_eq_getElem_cons hlt, he]
  obtain ⟨h1, h2, h3⟩ := h
  rw [hd] at h1 h2
  rw [after_add hu hc] at h1
  rcases h2 with h2 | ⟨_, _, h5, h6⟩
  · omega
  · rw [if_neg (by rw [hc]; decide)] at h5
    unfold Chg.app at h6
    rw [if_neg (by rw [hc]; decide)] at h6
    refine ⟨⟨h1, ?_, by rw [List.length_append, List.length_take]; omega⟩, h5.2⟩
    by_cases hl : (c.add.length : Int) ≤ u
    · rw [show (min u (c.add.length : Int)).toNat = c.add.length by omega, List.take_length]
      exact .inr h6
    · exact .inl (by omega)
theorem Left.start {f : Fil} (h : f.ok) (u0 : Int) : Left f u0 f.safe 0 u0 := ⟨rfl, .inr h, (Wf.start h).1⟩

/-- What after hands back. -/
def AfterPost (w : World) (l : List Int) (e : Ending) (w' : World) : Prop := ∃ v, e = .returned v ∧ RB w' (fun b => w.heap.size ≤ b) v l ∧ Below w.heap.size w w'
theorem box_grown {W w1 : World} {b : Nat} {x y z : Value} {T : TypeId} {row : Option Nat} (h : W.heap[b]? = some (.cells #[x, y, z] T (0, 0))) (hg : W.grownBy w1 row) (hn : some b ≠ row) :
    w1.cell? ⟨b, 0, none⟩ = some x ∧ w1.cell? ⟨b, 1, none⟩ = some y ∧ w1.cell? ⟨b, 2, none⟩ = some z := by
  have h1 := blk_grown h hg hn
  exact ⟨(blk_cell h1 0).trans rfl, (blk_cell h1 1).trans rfl, (blk_cell h1 2).trans rfl⟩
theorem chg_box_ne {w : World} {ok : Nat → Prop} {v : Value} {l : List Int} (h : RB w ok v l) : some w.heap.size ≠ v.ownBlock := fun e => by
  have := Kd.R_lt h _ e.symm
  omega
set_option maxRecDepth 100000 in
set_option maxHeartbeats 2000000 in
theorem after_any (w : World) (O : Nat → Own) (x : Nm) (p : Nat) (f : Fil) (sv nv cv : Value) (u0 : Int) (h : FA w O x p f sv nv cv) (hf : f.ok) (hu : u0 ≤ 9223372036854775807) (hcl : f.chs.length ≤ 1000000000000) :
    Calls Try.prog 65 #[.pointer (some ⟨p, 0, none⟩), .int .i64 u0] w (AfterPost w (after f.safe f.chs u0)) := by
  have H := Lib.hid h
  obtain ⟨A1, q1, A2, q2, A3, q3, e1, e2, e3⟩ := h.lens
  obtain ⟨N1, hN1⟩ : ∃ N1, N1 = f.safe.length := ⟨_, rfl⟩
  obtain ⟨N3, hN3⟩ : ∃ N3, N3 = f.chs.length := ⟨_, rfl⟩
  rw [← hN1] at e1
  rw [← hN3] at e3 hcl
  subst e1
  subst e3
  obtain ⟨c0, c1, c2, f0, f1, f2, hpl⟩ := h.see
  have HC : Hid ((Kd.int .u8).C w A1 N1 f.safe) := by rw [hN1]; exact (Kd.R_reads' h.safe).2.2
  have HNL : Hid (N1 * 1 ≤ 140737488355328) := by show _ ≤ _; have := (Wf.start hf).1; unfold big at this; omega
  have HST := Lib.hid (Left.start hf u0)
  have HN3 := Lib.hid hN3
  clear h hN1 hN3 hf e2
  go_enter Try.func65, Try.ntmps65
  go_wp2_with (go_at_call 58; refine (clone_bytes A1 N1 q1 f.safe w HC.out HNL.out).mono ?_; rintro r w1 ⟨v1, rfl, hv, hb⟩; have HV1 := Lib.hid hv; have HB1 := Lib.hid hb; obtain ⟨d0, d1, d2, g0, g1, g2, hpl1⟩ := (H.out.below hb).see; clear hv hb)
  clear c0 c1 c2 f0 f1 f2 d0 d1 d2 g0 g1 g2
  go_loopw [1, 5, 7, 18] (fun kv bv _ i wr => ∃ (j : Nat) (s : List Int) (u : Int), j ≤ N3 ∧ u ≤ 9223372036854775807 ∧ i = .int .i64 j ∧ kv = .int .i64 u ∧ Hid (Left f u0 s j u) ∧ Hid (RB wr (fun b => w.heap.size ≤ b) bv s) ∧ Hid (Below w.heap.size w wr)) (fun _ _ _ i _ => N3 - (intOf i).toNat)
  case atStart => exact ⟨0, f.safe, u0, Nat.zero_le _, hu, rfl, rfl, HST.out, HV1.out, HB1.out⟩
  case round =>
    clear HST HV1 HB1
    obtain ⟨j, s, u, hj, hu, rfl, rfl, HST, HV, HB⟩ := hrel
    obtain ⟨nb, Bb, qb, rfl⟩ : ∃ n A q, u5 = .slice A n q := by obtain ⟨A_, q_, e_⟩ := Kd.R_slice HV.out; exact ⟨_, A_, q_, e_⟩
    by_cases hjn : j < N3
    · obtain ⟨c, hc⟩ : ∃ c, f.chs[j]? = some c := ⟨_, List.getElem?_eq_getElem (by have := HN3.out; omega)⟩
      have HF := Lib.hid (H.out.below HB.out)
      obtain ⟨g, A4, q4, rfl, hgl, p0, p1, p2, hr4⟩ := chg_at HF.out.chgs hc
      have HR4 := Lib.hid hr4
      have HCJ := Lib.hid hc
      have hq4 : c.add.length ≤ q4 := (Kd.R_reads' hr4).2.1
      obtain ⟨n4, hn4⟩ : ∃ n4, n4 = c.add.length := ⟨_, rfl⟩
      rw [← hn4] at p2 hq4
      have HN4 := Lib.hid hn4
      clear hc hr4 hn4
      by_cases hu0 : u ≤ 0
      · have hu1 : decide (u ≤ 0) = true := decide_eq_true hu0
        have HE : Hid (s = after f.safe f.chs u0) := by have := HST.out.1; rw [after_stop _ _ hu0] at this; exact this
        clear hu0
        go_wp2_with fail
        go_ret
        exact ⟨_, rfl, by rw [← HE.out]; exact Kd.R_alloc HV.out _, HB.out.alloc HB.out.size _⟩
      · have hu1 : decide (u ≤ 0) = false := decide_eq_false hu0
        obtain ⟨cc, hcc⟩ : ∃ cc, cc = c.cuts := ⟨_, rfl⟩
        rw [← hcc] at p0
        have HB2 : Hid (Below w.heap.size w (wr.alloc (.cells #[.bool cc, .int .i64 c.to, .slice A4 n4 q4] 98))) := HB.out.alloc HB.out.size _
        have HV2 := Lib.hid (Kd.R_alloc HV.out (.cells #[.bool cc, .int .i64 c.to, .slice A4 n4 q4] 98))
        have HBX := Lib.hid (heap_alloc_new wr (.cells #[.bool cc, .int .i64 c.to, .slice A4 n4 q4] 98))
        have HUN := Lib.hid (fun W => units_one c A4 n4 q4 HN4.out W)
        rw [← hcc] at HUN
        cases cc with
        | true =>
          obtain ⟨HS2, t0, t1⟩ := HST.out.next_cut HCJ.out (by omega) hcc.symm
          have HS2 := Lib.hid HS2
          have hnb := (Kd.R_reads' HV.out).1
          have hqb := (Kd.R_reads' HV.out).2.1
          obtain ⟨t, ht⟩ : ∃ t : Nat, c.to = (t : Int) := ⟨c.to.toNat, by omega⟩
          rw [ht] at HBX HB2 HV2 p1 HUN HS2 t0 t1
          have i1 : (t : Int) ≤ (qb : Int) := by omega
          have htn : t ≤ nb := by omega
          have HUC : Hid (c.units = 1) := by show _ = _; unfold Chg.units; rw [← hcc]; rfl
          rw [HUC.out] at HUN
          have HV3 := Lib.hid (take_row HV2.out htn)
          clear ht t1 hcc
          go_wp2_with (go_at_call 63; refine (HUN.out _).mono ?_; rintro e w3 ⟨rfl, hb⟩; have HB3 := Lib.hid (HB2.out.trans (hb.mono HB2.out.size)); have HV4 := Lib.hid (Kd.R_below HV3.out hb); clear hb)
          go_roundw
          case rel => exact ⟨j + 1, _, u - 1, by omega, by omega, by go_num, rfl, HS2.out, HV4.out, HB3.out⟩
          case measure => simp [intOf]; omega
        | false =>
          obtain ⟨HS2, t1⟩ := HST.out.next_add HCJ.out (by omega) hcc.symm
          have HUC : Hid (c.units = (n4 : Int)) := by show _ = _; unfold Chg.units; rw [← hcc, ← HN4.out]; rfl
          have HCR : Hid ((Kd.int .u8).C (wr.alloc (.cells #[.bool false, .int .i64 c.to, .slice A4 n4 q4] 98)) A4 n4 c.add) := by
            have h1 := (Kd.R_reads' HR4.out).2.2
            rw [HN4.out]
            exact Kd.C_below h1 ((Below.refl _ _).alloc (Nat.le_refl _) _)
          rw [HUC.out] at HUN
          have HBG : Hid (s.length + c.add.length ≤ 140737488351232) := by show _ ≤ _; unfold big at t1; exact t1
          have HNB : Hid (n4 ≤ 140737488351232) := by show _ ≤ _; have := HBG.out; have := HN4.out; omega
          have hn4b : n4 ≤ 140737488351232 := HNB.out
          clear t1 hcc
          obtain ⟨t, ht⟩ : ∃ t : Nat, (t : Int) = min u (n4 : Int) := ⟨(min u (n4 : Int)).toNat, by omega⟩
          have HT : Hid ((min u (c.add.length : Int)).toNat = t) := by show _ = _; rw [← HN4.out]; omega
          rw [HT.out, ← HN4.out] at HS2
          have HS2 := Lib.hid HS2
          have htn : t ≤ n4 := by omega
          have HCT := Lib.hid (C_take HCR.out htn)
          have HLB : Hid ((s.length + t) * 1 ≤ 140737488355328) := by show _ ≤ _; have h1 := HBG.out; have h2 := HN4.out; omega
          by_cases hm : (n4 : Int) < u
          · obtain rfl : t = n4 := by omega
            have i0 : (0 : Int) ≤ (t : Int) ∧ (t : Int) ≤ (q4 : Int) := by omega
            clear ht
            go_wp2_with (first
              | (at_builtin; refine Kd.R_append_rows (Kd.int .u8) (w0 := w) 0 rfl (.tmp 30) (.tmp 38) 34 5 (.int .u8 0) 1 rfl Try.underlying34 info_u8 rfl (by decide) (by decide) (.slice Bb nb qb) s (c.add.take t) A4 t q4 (fun b => w.heap.size ≤ b) (fun _ => False) rfl rfl HV2.out HCT.out (fun x cs h => h) (fun _ h => h.elim) (fun b hb => Nat.le_trans HB2.out.size hb) (HB2.out.mono (Nat.zero_le _)) (Nat.zero_le _) HLB.out ?_; intro v3 w3 hr hb hg hat; obtain ⟨N5, B5, q5, rfl⟩ : ∃ n A q, v3 = .slice A n q := (by obtain ⟨A_, q_, e_⟩ := Kd.R_slice hr; exact ⟨_, A_, q_, e_⟩); have HR3 := Lib.hid hr; have HB3 : Hid (Below w.heap.size w w3) := grown_new HB2.out hg (fun k hk => HV2.out.1 k hk); obtain ⟨k0, k1, k2⟩ := box_grown HBX.out hg (chg_box_ne HV.out); clear hr hb hg hat)
              | (go_at_call 63; refine (HUN.out _).mono ?_; rintro e w5 ⟨rfl, hb⟩; have HB5 := Lib.hid (HB3.out.trans (hb.mono HB3.out.size)); have HR5 := Lib.hid (Kd.R_below HR3.out hb); clear hb))
            go_roundw
            case rel => exact ⟨j + 1, _, u - t, by omega, by omega, by go_num, rfl, HS2.out, HR5.out, HB5.out⟩
            case measure => simp [intOf]; omega
          · obtain rfl : u = (t : Int) := by omega
            have i0 : (0 : Int) ≤ (t : Int) ∧ (t : Int) ≤ (q4 : Int) := by omega
            clear ht
            go_wp2_with (first
              | (at_builtin; refine Kd.R_append_rows (Kd.int .u8) (w0 := w) 0 rfl (.tmp 30) (.tmp 38) 34 5 (.int .u8 0) 1 rfl Try.underlying34 info_u8 rfl (by decide) (by decide) (.slice Bb nb qb) s (c.add.take t) A4 t q4 (fun b => w.heap.size ≤ b) (fun _ => False) rfl rfl HV2.out HCT.out (fun x cs h => h) (fun _ h => h.elim) (fun b hb => Nat.le_trans HB2.out.size hb) (HB2.out.mono (Nat.zero_le _)) (Nat.zero_le _) HLB.out ?_; intro v3 w3 hr hb hg hat; obtain ⟨N5, B5, q5, rfl⟩ : ∃ n A q, v3 = .slice A n q := (by obtain ⟨A_, q_, e_⟩ := Kd.R_slice hr; exact ⟨_, A_, q_, e_⟩); have HR3 := Lib.hid hr; have HB3 : Hid (Below w.heap.size w w3) := grown_new HB2.out hg (fun k hk => HV2.out.1 k hk); obtain ⟨k0, k1, k2⟩ := box_grown HBX.out hg (chg_box_ne HV.out); clear hr hb hg hat)
              | (go_at_call 63; refine (HUN.out _).mono ?_; rintro e w5 ⟨rfl, hb⟩; have HB5 := Lib.hid (HB3.out.trans (hb.mono HB3.out.size)); have HR5 := Lib.hid (Kd.R_below HR3.out hb); clear hb))
            go_roundw
            case rel => exact ⟨j + 1, _, (t : Int) - n4, by omega, by omega, by go_num, rfl, HS2.out, HR5.out, HB5.out⟩
            case measure => simp [intOf]; omega
    · obtain rfl : j = N3 := by omega
      have HE : Hid (s = after f.safe f.chs u0) := by
        have := HST.out.1
        rw [List.drop_of_length_le (by have := HN3.out; omega)] at this
        exact this
      go_wp2_with fail
      go_ret
      exact ⟨_, rfl, by rw [← HE.out]; exact HV.out, HB.out⟩
end Go.Proofs.Ytkhopknpadncdaa
