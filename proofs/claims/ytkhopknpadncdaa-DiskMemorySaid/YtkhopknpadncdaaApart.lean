/- leatref01.Apart: two rows with the same bytes that share no memory. -/
import Derived.Test.YtkhopknpadncdaaSpoilL
namespace Go.Proofs.Ytkhopknpadncdaa
open Go Go.RowKit Go.Maps Go.Proofs.YtkhopknpadncdaaW.PrintWords Go.Proofs.Ytkhopknpadncdaa.PDiskMemory Go.Proofs.YtkhopknpadncdaaW.PrintMore
set_option linter.unusedVariables false

theorem same_any (A B : Option Addr) (c q : Nat) (l : List Int) (w : World) (hA : (Kd.int .u8).C w A l.length l) (hc : l.length ≤ c) (hB : (Kd.int .u8).C w B l.length l) (hq : l.length ≤ q) (hl : l.length ≤ big) :
    Calls Try.prog 36 #[.slice A l.length c, .slice B l.length q] w fun e w' => e = .returned (.bool true) ∧ Below w.heap.size w w' :=
  (leatref01_Same.calls (l.length + 1) A c l B q l true w hA hc hB hq (sameM_f (by unfold big at hl; omega) (by omega))).mono fun e w' ⟨he, hd⟩ => ⟨he, hd.below⟩
/-- The markL that Apart puts behind. -/
def markL (a : Int) (q : Nat) : List Int := (List.range q).map fun i : Nat => ((i : Int) + a)
theorem markL_len (a : Int) (q : Nat) : (markL a q).length = q := by unfold markL; simp
theorem markL_snoc (a : Int) (q : Nat) : markL a q ++ [((q : Int) + a)] = markL a (q + 1) := by unfold markL; rw [List.range_succ, List.map_append]; rfl
theorem markL_at {a : Int} {q k : Nat} (l : List Int) (h : k < q) : (l ++ markL a q).getD (l.length + k) 0 = (k : Int) + a := by
  rw [List.getD_eq_getElem?_getD, List.getElem?_append_right (by omega), Nat.add_sub_cancel_left]
  unfold markL
  simp [h]
/-- Row by row: W has v's blocks as they were. -/
theorem RB_tch {W W' : World} {S T : Nat → Prop} {v : Value} {l : List Int} (h : RB W S v l) (hT : Tch T W W') (hd : ∀ b, S b → b < W.heap.size → ¬ T b) : RB W' S v l := Kd.R_step h (fun k ho hl => hT.block k hl (hd k ho hl))
/-- Old blocks of S, or made between. -/
def since (W W' : World) (S : Nat → Prop) (b : Nat) : Prop := S b ∨ W.heap.size ≤ b ∧ b < W'.heap.size
theorem Grw.since {W W' : World} {S : Nat → Prop} {v0 v : Value} {l0 m : List Int} (h : Grw W' (newer W S) v0 l0 v m) : RB W' (since W W' S) v0 l0 ∧ RB W' (since W W' S) v (l0 ++ m) :=
  ⟨Kd.R_mono (Kd.R_bound h.1) (fun b hb => hb.1.imp id (fun h => ⟨h, hb.2.2.1⟩)), Kd.R_mono (Kd.R_bound h.2) (fun b hb => hb.1.imp id (fun h => ⟨h, hb.2.2.1⟩))⟩
def ApartPost (W : World) (Sa Sb : Nat → Prop) (e : Ending) (W' : World) : Prop := e = .returned (.bool true) ∧ Tch (fun b => Sa b ∨ Sb b) W W'
set_option maxRecDepth 100000 in
set_option maxHeartbeats 2000000 in
theorem apart_any (W : World) (Sa Sb : Nat → Prop) (A B C : Option Addr) (n ca cb cc : Nat) (l : List Int) (ha : RB W Sa (.slice A n ca) l) (hb : RB W Sb (.slice B n cb) l) (hd : ∀ b, Sa b → ¬ Sb b)
    (hC : ∀ W', Tch (fun b => Sa b ∨ Sb b) W W' → (Kd.int .u8).C W' C n l) (hcc : n ≤ cc) (hl : n ≤ big) :
    Calls Try.prog 27 #[.slice A n ca, .slice B n cb, .slice C n cc] W (ApartPost W Sa Sb) := by
  have hn : n = l.length := (Kd.R_reads' ha).1
  subst hn
  have hca : l.length ≤ ca := (Kd.R_reads' ha).2.1
  have hcb : l.length ≤ cb := (Kd.R_reads' hb).2.1
  have hlb : l.length ≤ 140737488351232 := hl
  have HA := Lib.hid ha
  have HB := Lib.hid hb
  have HD := Lib.hid hd
  have HC := Lib.hid hC
  clear ha hb hd hC
  have HM := Lib.hid (show (l.map turn).length = l.length from List.length_map _)
  go_enter Try.func27, Try.ntmps27
  go_wp2_with fail
  refine (same_any A C ca cc l _ (Kd.R_reads' HA.out).2.2 hca (HC.out _ (Tch.refl _ _)) hcc hl).mono ?_
  rintro e w1 ⟨rfl, hb1⟩
  have HB1 := Lib.hid hb1
  have HT1 : Hid (Tch (fun b => Sa b ∨ Sb b) W w1) := Tch.of_below hb1
  clear hb1
  go_wp2_with fail
  refine (same_any B C cb cc l _ (Kd.R_reads' (Kd.R_below HB.out HB1.out)).2.2 hcb (HC.out _ HT1.out) hcc hl).mono ?_
  rintro e w2 ⟨rfl, hb2⟩
  have HB2 : Hid (Below W.heap.size W w2) := HB1.out.trans (hb2.mono HB1.out.size)
  have HA2 : Hid (RB w2 Sa (.slice A l.length ca) l) := Kd.R_below HA.out HB2.out
  have HV2 : Hid (RB w2 Sb (.slice B l.length cb) l) := Kd.R_below HB.out HB2.out
  have HT2 : Hid (Tch (fun b => Sa b ∨ Sb b) W w2) := Tch.of_below HB2.out
  clear hb2 HB1 HT1 HA HB
  go_wp2_with fail
  refine (spoil_any w2 Sa _ l HA2.out).mono ?_
  rintro e w3 ⟨rfl, hr, hg, _⟩
  have hT : Tch Sa w2 w3 := Tch.of_grown hg (fun k hk => HA2.out.1 k hk)
  have HA3 := Lib.hid hr
  have HV3 : Hid (RB w3 Sb (.slice B l.length cb) l) := RB_tch HV2.out hT (fun b hb _ ha => HD.out b ha hb)
  have HT3 : Hid (Tch (fun b => Sa b ∨ Sb b) W w3) := HT2.out.trans (hT.mono (fun b h => .inl h))
  clear hr hg hT HA2 HV2 HT2 HB2
  go_wp2
  go_loopw [7, 8] (fun v k Wr => ∃ q : Nat, q ≤ 80 ∧ k = .int .i64 q ∧ Hid (Grw Wr (newer w3 Sa) (.slice A l.length ca) (l.map turn) v (markL 1 q)) ∧ Hid (Tch (newer w3 Sa) w3 Wr)) (fun _ k _ => 80 - (intOf k).toNat)
  case atStart => exact ⟨0, by omega, rfl, Grw.start (Kd.R_mono HA3.out (fun b h => .inl h)), Tch.refl _ _⟩
  case round =>
    obtain ⟨q, hq, rfl, HG, HT⟩ := hrel
    by_cases hq8 : q < 80
    · obtain ⟨Av, cv, ev⟩ := Kd.R_slice HG.out.2
      subst ev
      have HLL : Hid ((l.map turn ++ markL 1 q).length + 1 ≤ 140737488355328) := by show _ ≤ _; rw [List.length_append, HM.out, markL_len]; omega
      have HMS := Lib.hid (markL_snoc 1 q)
      have HSZ := Lib.hid HT.out.size
      go_wp2_with (at_builtin; refine wpList_grw rfl _ _ 34 rfl Try.underlying34 info_u8 (.slice A l.length ca) _ (l.map turn) (markL 1 q) _ rfl rfl HG.out HLL.out ?_; intro v' w' h1 h2; have HG2 : Hid (Grw w' (newer w3 Sa) (.slice A l.length ca) (l.map turn) v' _) := ⟨Kd.R_mono h1.1 (fun k hk => hk.elim id (fun h => .inr (Nat.le_trans HSZ.out h))), Kd.R_mono h1.2 (fun k hk => hk.elim id (fun h => .inr (Nat.le_trans HSZ.out h)))⟩; have HT5 := Lib.hid (HT.out.trans h2); clear h1 h2)
      go_roundw
      case rel => exact ⟨q + 1, by omega, by go_num, by rw [← HMS.out]; exact HG2, HT5.out⟩
      case measure => simp [intOf]; omega
    · obtain rfl : q = 80 := by omega
      clear hq hq8
      have h5 := HG.out.since
      have HA4 : Hid (RB wr (since w3 wr Sa) (.slice A l.length ca) (l.map turn)) := h5.1
      obtain ⟨Ag, cg, eg⟩ := Kd.R_slice h5.2
      subst eg
      have hgl : (l.map turn ++ markL 1 80).length = l.length + 80 := by rw [List.length_append, HM.out, markL_len]
      rw [hgl] at h5
      have HG4 : Hid (RB wr (since w3 wr Sa) (.slice Ag (l.length + 80) cg) (l.map turn ++ markL 1 80)) := h5.2
      have hcg : l.length + 80 ≤ cg := (Kd.R_reads' h5.2).2.1
      have hT4 : Tch Sa w3 wr := ⟨HT.out.os, HT.out.tape, HT.out.output, HT.out.size, fun k hk hn => HT.out.block k hk (fun h => h.elim hn (fun h => by omega))⟩
      have HV4 : Hid (RB wr (fun b => Sb b ∧ b < w3.heap.size) (.slice B l.length cb) l) := RB_tch (Kd.R_mono (Kd.R_bound HV3.out) (fun b hb => ⟨hb.1, hb.2.2.1⟩)) hT4 (fun b hb _ ha => HD.out b ha hb.1)
      have HT4 : Hid (Tch (fun b => Sa b ∨ Sb b) W wr) := HT3.out.trans (hT4.mono (fun b h => .inl h))
      have HSZ3 := Lib.hid hT4.size
      obtain ⟨w4, hw4⟩ : ∃ w4 : World, w4 = wr := ⟨_, rfl⟩
      subst hw4
      rw [hgl]
      clear h5 hgl HG HT hT4 HA3 HV3 HT3
      go_wp2_with fail
      refine (same_any B C cb cc l _ (Kd.R_reads' HV4.out).2.2 hcb (HC.out _ HT4.out) hcc hl).mono ?_
      rintro e w5 ⟨rfl, hb5⟩
      have HB5 := Lib.hid hb5
      have HT5 : Hid (Tch (fun b => Sa b ∨ Sb b) W w5) := HT4.out.trans (Tch.of_below hb5)
      clear hb5
      go_wp2_with fail
      have HTK : Hid (RB w5 (since w3 w4 Sa) (.slice Ag l.length cg) (l.map turn)) := by
        have h := Kd.R_take (m := l.length) (Kd.R_below HG4.out HB5.out) (by rw [List.length_append, HM.out]; omega)
        rw [List.take_append_of_le_length (Nat.le_of_eq HM.out.symm), List.take_of_length_le (Nat.le_of_eq HM.out)] at h
        exact h
      refine (turned_any Ag C cg cc l _ (by have h := (Kd.R_reads' HTK.out).2.2; rw [HM.out] at h; exact h) (by omega) (HC.out _ HT5.out) hcc hl).mono ?_
      rintro e w6 ⟨rfl, nd, rfl⟩
      obtain ⟨w6, hw6⟩ : ∃ w6 : World, w6 = w5.drewN nd := ⟨_, rfl⟩
      have hb6 : Below w5.heap.size w5 w6 := by rw [hw6]; exact pw_below_drewN (Below.refl _ _) _
      rw [← hw6]
      clear hw6 HTK
      have HB6 : Hid (Below w4.heap.size w4 w6) := HB5.out.trans (hb6.mono HB5.out.size)
      have HT6 : Hid (Tch (fun b => Sa b ∨ Sb b) W w6) := HT5.out.trans (Tch.of_below hb6)
      have HV6 : Hid (RB w6 (fun b => Sb b ∧ b < w3.heap.size) (.slice B l.length cb) l) := Kd.R_below HV4.out HB6.out
      have HA6 : Hid (RB w6 (since w3 w4 Sa) (.slice A l.length ca) (l.map turn)) := Kd.R_below HA4.out HB6.out
      have HG6 : Hid (RB w6 (since w3 w4 Sa) (.slice Ag (l.length + 80) cg) (l.map turn ++ markL 1 80)) := Kd.R_below HG4.out HB6.out
      have HSZ6 : Hid (w4.heap.size ≤ w6.heap.size) := HB6.out.size
      clear hb6 HB5 HB6 HT5 HV4 HA4 HG4
      go_wp2
      go_loopw [9, 10] (fun v k Wr => ∃ q : Nat, q ≤ 80 ∧ k = .int .i64 q ∧ Hid (Grw Wr (newer w6 (fun b => Sb b ∧ b < w3.heap.size)) (.slice B l.length cb) l v (markL 101 q)) ∧ Hid (Tch (newer w6 (fun b => Sb b ∧ b < w3.heap.size)) w6 Wr)) (fun _ k _ => 80 - (intOf k).toNat)
      case atStart => exact ⟨0, by omega, rfl, Grw.start (Kd.R_mono HV6.out (fun b h => .inl h)), Tch.refl _ _⟩
      case round =>
        obtain ⟨q, hq, rfl, HG, HT⟩ := hrel
        by_cases hq8 : q < 80
        · obtain ⟨Av, cv, ev⟩ := Kd.R_slice HG.out.2
          subst ev
          have HLL : Hid ((l ++ markL 101 q).length + 1 ≤ 140737488355328) := by show _ ≤ _; rw [List.length_append, markL_len]; omega
          have HMS := Lib.hid (markL_snoc 101 q)
          have HSZ := Lib.hid HT.out.size
          go_wp2_with (at_builtin; refine wpList_grw rfl _ _ 34 rfl Try.underlying34 info_u8 (.slice B l.length cb) _ l (markL 101 q) _ rfl rfl HG.out HLL.out ?_; intro v' w' h1 h2; have HG2 : Hid (Grw w' (newer w6 (fun b => Sb b ∧ b < w3.heap.size)) (.slice B l.length cb) l v' _) := ⟨Kd.R_mono h1.1 (fun k hk => hk.elim id (fun h => .inr (Nat.le_trans HSZ.out h))), Kd.R_mono h1.2 (fun k hk => hk.elim id (fun h => .inr (Nat.le_trans HSZ.out h)))⟩; have HT5 := Lib.hid (HT.out.trans h2); clear h1 h2)
          go_roundw
          case rel => exact ⟨q + 1, by omega, by go_num, by rw [← HMS.out]; exact HG2, HT5.out⟩
          case measure => simp [intOf]; omega
        · obtain rfl : q = 80 := by omega
          clear hq hq8
          have h5 := HG.out.since
          have HV7 : Hid (RB wr (since w6 wr (fun b => Sb b ∧ b < w3.heap.size)) (.slice B l.length cb) l) := h5.1
          obtain ⟨Ah, ch, eh⟩ := Kd.R_slice h5.2
          subst eh
          have hgl : (l ++ markL 101 80).length = l.length + 80 := by rw [List.length_append, markL_len]
          rw [hgl] at h5
          have HH7 : Hid (RB wr (since w6 wr (fun b => Sb b ∧ b < w3.heap.size)) (.slice Ah (l.length + 80) ch) (l ++ markL 101 80)) := h5.2
          have hT7 : Tch (fun b => Sb b ∧ b < w3.heap.size) w6 wr := ⟨HT.out.os, HT.out.tape, HT.out.output, HT.out.size, fun k hk hn => HT.out.block k hk (fun h => h.elim hn (fun h => by omega))⟩
          have hap : ∀ b, since w3 w4 Sa b → ¬ (Sb b ∧ b < w3.heap.size) := fun b h1 h2 => h1.elim (fun h => HD.out b h h2.1) (fun h => by omega)
          have HA7 : Hid (RB wr (fun b => since w3 w4 Sa b ∧ b < w6.heap.size) (.slice A l.length ca) (l.map turn)) := RB_tch (Kd.R_mono (Kd.R_bound HA6.out) (fun b hb => ⟨hb.1, hb.2.2.1⟩)) hT7 (fun b hb _ => hap b hb.1)
          have HG7 : Hid (RB wr (fun b => since w3 w4 Sa b ∧ b < w6.heap.size) (.slice Ag (l.length + 80) cg) (l.map turn ++ markL 1 80)) := RB_tch (Kd.R_mono (Kd.R_bound HG6.out) (fun b hb => ⟨hb.1, hb.2.2.1⟩)) hT7 (fun b hb _ => hap b hb.1)
          have HT7 : Hid (Tch (fun b => Sa b ∨ Sb b) W wr) := HT6.out.trans (hT7.mono (fun b h => .inr h.1))
          have HT6z : Hid (W.heap.size ≤ w6.heap.size) := HT6.out.size
          have HAP : Hid (∀ b, since w6 wr (fun b => Sb b ∧ b < w3.heap.size) b → ¬ (since w3 w4 Sa b ∧ b < w6.heap.size)) := fun b h1 h2 => h1.elim (fun h => hap b h2.1 h) (fun h => by omega)
          obtain ⟨w7, hw7⟩ : ∃ w7 : World, w7 = wr := ⟨_, rfl⟩
          subst hw7
          rw [hgl]
          clear h5 hgl HG HT hT7 hap HA6 HG6 HV6 HT6
          go_wp2_with fail
          refine (spoil_any w7 _ _ l HV7.out).mono ?_
          rintro e w8 ⟨rfl, hr, hg, ho⟩
          have hT8 : Tch (since w6 w7 (fun b => Sb b ∧ b < w3.heap.size)) w7 w8 := Tch.of_grown hg (fun k hk => HV7.out.1 k hk)
          have HV8 := Lib.hid hr
          have HA8 := Lib.hid (RB_tch HA7.out hT8 (fun b h1 _ h2 => HAP.out b h2 h1))
          have HG8 := Lib.hid (RB_tch HG7.out hT8 (fun b h1 _ h2 => HAP.out b h2 h1))
          have HT8 : Hid (Tch (fun b => Sa b ∨ Sb b) W w8) := HT7.out.then_ hT8 (fun i hi => hi.elim (fun h => .inl (.inr h.1)) (fun h => .inr (Nat.le_trans HT6z.out h.1)))
          have hH : ∃ l2 : List Int, l2.length = l.length ∧ RB w8 (since w6 w7 (fun b => Sb b ∧ b < w3.heap.size)) (.slice Ah (l.length + 80) ch) (l2 ++ markL 101 80) := by
            by_cases hs : (Value.slice Ah (l.length + 80) ch).ownBlock = (Value.slice B l.length cb).ownBlock
            · exact ⟨l.map turn, HM.out, ho _ _ _ hs HH7.out⟩
            · exact ⟨l, rfl, Kd.R_mono (Kd.R_grown (Kd.R_tight rfl HH7.out) hg (fun k hk e => hs (hk.symm.trans e))) (fun k hk => HH7.out.1 k hk.symm)⟩
          obtain ⟨l2, hl2, hh⟩ := hH
          have hl2' : (l2 ++ markL 101 80).length = l.length + 80 := by rw [List.length_append, markL_len, hl2]
          obtain ⟨gh, caph, eh, _⟩ := Kd.R_form hh (by rw [hl2']; omega)
          obtain rfl : Ah = some ⟨gh, 0, none⟩ := by injection eh
          obtain ⟨gg, capg, eg, _⟩ := Kd.R_form HG8.out (by rw [List.length_append, markL_len]; omega)
          obtain rfl : Ag = some ⟨gg, 0, none⟩ := by injection eg
          have HCG : Hid (∀ q : Nat, q < 80 → w8.cell? ⟨gg, l.length + q, none⟩ = some (.int .u8 ((q : Int) + 1))) := fun q hq => by
            have := (int_get HG8.out (j := l.length + q) (by omega)).1
            have hm := markL_at (a := 1) (l.map turn) hq
            rw [HM.out] at hm
            rw [this, hm]
          have HCH : Hid (∀ q : Nat, q < 80 → w8.cell? ⟨gh, l.length + q, none⟩ = some (.int .u8 ((q : Int) + 101))) := fun q hq => by
            have := (int_get hh (j := l.length + q) (by omega)).1
            have hm := markL_at (a := 101) l2 hq
            rw [hl2] at hm
            rw [this, hm]
          clear hr hg ho hT8 hh hl2 hl2' eh eg HV7 HA7 HG7 HH7 HT7
          go_wp2
          go_loop [11] (fun i => ∃ q : Nat, q ≤ 80 ∧ i = .int .i64 q) (fun i => 80 - (intOf i).toNat)
          case atStart => exact ⟨0, by omega, rfl⟩
          case round =>
            obtain ⟨q, hq, rfl⟩ := hrel
            by_cases hq8 : q < 80
            · have c1 := HCG.out q hq8
              have c2 := HCH.out q hq8
              go_wp2
              go_round
              case rel => exact ⟨q + 1, by omega, by go_num⟩
              case measure => simp [intOf]; omega
            · go_wp2_with fail
              refine (turned_any A C ca cc l _ (by have h := (Kd.R_reads' HA8.out).2.2; rw [HM.out] at h; exact h) hca (HC.out _ HT8.out) hcc hl).mono ?_
              rintro e w9 ⟨rfl, n9, rfl⟩
              go_wp2_with fail
              refine (turned_any B C cb cc l _ (by have h := (Kd.R_reads' (Kd.R_below HV8.out (pw_below_drewN (Below.refl _ _) n9))).2.2; rw [HM.out] at h; exact h) hcb (HC.out _ (HT8.out.trans (Tch.of_below (pw_below_drewN (Below.refl _ _) n9)))) hcc hl).mono ?_
              rintro e w10 ⟨rfl, n10, rfl⟩
              have HE : Hid (ApartPost W Sa Sb (.returned (.bool true)) ((w8.drewN n9).drewN n10)) := ⟨rfl, HT8.out.trans (Tch.of_below (pw_below_drewN (pw_below_drewN (Below.refl _ _) n9) n10))⟩
              go_wp2
              go_ret
              exact ⟨by first | rfl | (simp; done) | (go_simp; rfl), by have h := HE.out.2; rw [World.drewN_drewN] at h; exact h⟩
end Go.Proofs.Ytkhopknpadncdaa
