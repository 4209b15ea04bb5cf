/- Cut's function: what a step of it does. -/
import Derived.Test.YtkhopknpadncdaaApp1
import Derived.ChangeAlike
import Derived.RegionTactic
namespace Go.Proofs.Ytkhopknpadncdaa
open Go Go.RowKit Go.Maps Go.Proofs.YtkhopknpadncdaaW.PrintWords Go.Proofs.Ytkhopknpadncdaa.PDiskMemory Go.Proofs.YtkhopknpadncdaaW.PrintMore
set_option linter.unusedVariables false

theorem take_row {w : World} {ok : Nat → Prop} {A : Option Addr} {n c t : Nat} {l : List Int} (h : RB w ok (.slice A n c) l) (ht : t ≤ n) : RB w ok (.slice A t c) (l.take t) := Kd.R_take h (by have := (Kd.R_reads' h).1; omega)

theorem cut_end {w w' : World} {d m N : Nat} {O O' : Nat → Own} {k : Dk} {pv : Value} {Z : List (Nm × (Nat × Fil))} {S : Nat → Prop} {x : Nm} {p : Nat} {f : Fil} {u : Int} (h : DA w d m O k N pv Z) (hS : ∀ b, S b ↔ O b ≠ .none) (hz : Go.Proofs.Ytkhopknpadncdaa.look Z x = some (p, f)) (hl : Go.Proofs.Ytkhopknpadncdaa.look k.files x = some f)
    (hch : f.chs.length + 1 ≤ N) (hF : File w' O' x p (cutF f u)) (hT : Tch (OfFile O x) w w') (hG : Grew O O' x w.heap.size w'.heap.size) (h0 : 0 ≤ u) (h1 : u ≤ f.seen.length) :
    Disk w' d (fun b => O' b ≠ .none) { k with files := upd k.files x (cutF f u) } N ∧ Tch S w w' ∧ ∀ b, O' b ≠ .none → S b ∨ w.heap.size ≤ b := by
  have hfo := h.ok.1 (x, f) (look_mem hl)
  refine ⟨⟨m, O', pv, _, h.turn_file hl hz hF hT.size (fun b hl hb => hT.block b hl hb) hG ⟨fun q hq => ?_, h.ok.2.1, h.ok.2.2.1, by show (upd k.files x _).length ≤ 256; rw [upd_length]; exact h.ok.2.2.2.1, h.ok.2.2.2.2⟩, fun b => Iff.rfl⟩, hT.mono (of_own hS), turn_foot hS hG⟩
  rcases mem_upd.1 hq with ⟨e, _⟩ | ⟨hq, _⟩
  · subst e
    refine ⟨?_, by show (f.chs ++ [_]).length ≤ N; rw [List.length_append]; exact hch, hfo.2.2⟩
    exact Wf.snoc (c := ⟨true, u, []⟩) hfo.1 (by rw [if_pos rfl]; exact ⟨h0, h1⟩)
  · exact h.ok.1 q hq
set_option maxRecDepth 100000 in
set_option maxHeartbeats 2000000 in
theorem cut1_any (w : World) (d N : Nat) (S : Nat → Prop) (k : Dk) (s : ByteArray) (u : Int) (bd bn bb : Nat) (h : Disk w d S k N) (hk : ∀ p ∈ k.files, p.2.chs.length + 1 ≤ N) (hN : N ≤ 1000000000000) (hs : s.size ≤ maxLen)
    (x1 : Box w bd (.pointer (some ⟨d, 0, none⟩))) (x2 : Box w bn (.string s)) (x3 : Box w bb (.int .i64 u)) (hnb : ¬ S bb) :
    Calls Try.prog 62 #[.pointer (some ⟨bd, 0, none⟩), .pointer (some ⟨bn, 0, none⟩), .pointer (some ⟨bb, 0, none⟩)] w (SPost S d N w (cutD u s.data.toList k)) := by
  obtain ⟨m, O, pv, Z, h, hS⟩ := h
  obtain ⟨⟨c0, c1, _, _, _⟩, hdl⟩ := h.cells
  have l1 := x1.lt
  have l2 := x2.lt
  have l3 := x3.lt
  unfold Box at x1 x2 x3
  have LK := h.look hs
  have HD := Lib.hid (show Disk w d S k N from ⟨m, O, pv, Z, h, hS⟩)
  have H := Lib.hid h
  have HS := Lib.hid hS
  have HK := Lib.hid hk
  have HNB := Lib.hid hnb
  have HLF := Lib.hid (h.look_files s.data.toList)
  cases hz : look Z s.data.toList with
  | none =>
    rw [hz] at LK HLF
    have HLK := Lib.hid LK
    simp only [Option.map_none, optr] at LK
    have HR : Hid (cutD u s.data.toList k = (k, 183)) := by show _ = _; unfold cutD; rw [HLF.out]; rfl
    clear h hS hk hz
    go_enter Try.func62, Try.ntmps62
    go_wp2_with fail
    go_quiet (fail)
    go_wp2_with fail
    go_ret
    exact ⟨S, by rw [HR.out]; rfl, by rw [HR.out]; exact HD.out.below (pw_below_drewN (Below.refl _ _) _), Tch.of_below (pw_below_drewN (Below.refl _ _) _), fun b hb => .inl hb⟩
  | some pf =>
    obtain ⟨p, f⟩ := pf
    have hzm := look_mem hz
    rw [hz] at LK HLF
    simp only [Option.map_some, optr, fptr] at LK
    obtain ⟨sv, nv, cv, hF⟩ := h.file _ p f hzm
    have hbig := (Wf.stop (h.ok.1 (s.data.toList, f) (look_mem (by rw [HLF.out]; rfl))).1).1
    simp only at hbig
    obtain ⟨A1, q1, A2, q2, A3, q3, e1, e2, e3⟩ := hF.lens
    obtain ⟨n, hn⟩ : ∃ n, n = f.seen.length := ⟨_, rfl⟩
    obtain ⟨n3, hn3⟩ : ∃ n3, n3 = f.chs.length := ⟨_, rfl⟩
    rw [← hn] at e2 hbig
    rw [← hn3] at e3
    subst e2
    subst e3
    have hcap : n ≤ q2 := (Kd.R_reads' hF.seen).2.1
    have HF := Lib.hid hF
    have HN := Lib.hid hn
    have HN3 := Lib.hid hn3
    have HZ := Lib.hid hz
    unfold big at hbig
    clear h hS hk hz hzm hF e1 hn hn3 hnb
    go_enter Try.func62, Try.ntmps62
    go_upto_region 1 with fail
    go_cut [4] from 5 to 10 (fun v wx => v = .pointer (some ⟨p, 0, none⟩) ∧ Below w.heap.size w wx)
    case first =>
      go_quiet (fail)
      go_wp2_with fail
      go_meet
      exact ⟨rfl, pw_below_drewN (Below.refl _ _) _⟩
    case rest =>
    obtain ⟨rfl, hb1⟩ := hcut
    rename World => w1
    have HB1 := Lib.hid hb1
    have y3 := keep_cell hb1 l3 x3
    have HF1 := Lib.hid (HF.out.step (fun b hl _ => hb1.block b hl))
    obtain ⟨g0, g1, g2, r0, r1, r2, gl⟩ := HF1.out.see
    clear hb1 LK
    by_cases hu : u < 0
    · have hu1 : decide (u < 0) = true := decide_eq_true hu
      have HR : Hid (cutD u s.data.toList k = (k, 3)) := by show _ = _; unfold cutD; rw [HLF.out]; simp only [Option.map_some]; rw [if_pos (.inl hu)]
      clear hu
      go_wp2_with fail
      go_quiet (fail)
      go_wp2_with fail
      go_ret
      exact ⟨S, by rw [HR.out]; rfl, by rw [HR.out]; exact HD.out.below (pw_below_drewN HB1.out _), Tch.of_below (pw_below_drewN HB1.out _), fun b hb => .inl hb⟩
    · have hu1 : decide (u < 0) = false := decide_eq_false hu
      by_cases hun : (n : Int) < u
      · have hu2 : decide ((n : Int) < u) = true := decide_eq_true hun
        have HR : Hid (cutD u s.data.toList k = (k, 3)) := by show _ = _; unfold cutD; rw [HLF.out]; simp only [Option.map_some]; rw [if_pos (.inr (by rw [← HN.out]; exact hun))]
        clear hu hun
        go_wp2_with fail
        go_quiet (fail)
        go_wp2_with fail
        go_ret
        exact ⟨S, by rw [HR.out]; rfl, by rw [HR.out]; exact HD.out.below (pw_below_drewN HB1.out _), Tch.of_below (pw_below_drewN HB1.out _), fun b hb => .inl hb⟩
      · have hu2 : decide ((n : Int) < u) = false := decide_eq_false hun
        have HR : Hid (cutD u s.data.toList k = ({ k with files := upd k.files s.data.toList (cutF f u) }, 0)) := by show _ = _; unfold cutD; rw [HLF.out]; simp only [Option.map_some]; rw [if_neg (by rw [← HN.out]; omega)]
        go_upto_region 4 with fail
        go_cut [14] from 15 to 25 (fun v wx => v = .bool false ∧ Below w.heap.size w wx)
        case first =>
          go_quiet (fail)
          go_wp2_with fail
          go_meet
          exact ⟨rfl, pw_below_drewN HB1.out _⟩
        case rest =>
        obtain ⟨rfl, hb2⟩ := hcut
        rename World => w2
        have HB2 := Lib.hid hb2
        have HF2 := Lib.hid (HF.out.step (fun b hl _ => hb2.block b hl))
        clear y3 g0 g1 g2 r0 r1 r2 gl HF1
        have y3 := keep_cell hb2 l3 x3
        obtain ⟨g0, g1, g2, r0, r1, r2, gl⟩ := HF2.out.see
        clear hb2
        have i0 : (0 : Int) ≤ u := by omega
        have i1 : u ≤ (q2 : Int) := by omega
        obtain ⟨t, ht⟩ : ∃ t : Nat, u = (t : Int) := ⟨u.toNat, by omega⟩
        subst ht
        have htn : t ≤ n := by omega
        have HNL : Hid ((f.chs.length + 1) * 40 ≤ 140737488355328) := by
          have h1 := HK.out (s.data.toList, f) (look_mem (by rw [HLF.out]; rfl))
          show _ ≤ _
          simp only at h1
          omega
        have HF3 := Lib.hid (HF2.out.below (below_drew (Below.refl _ _)))
        have HO := Lib.hid ((HF3.out.put_seen (w1 := w2.drew) (v1 := .slice A2 t q2) (l := f.seen.take t) (Kd.R_mono (take_row HF3.out.seen htn) (fun _ h => .inl h)) ⟨rfl, rfl, rfl, Nat.le_refl _, fun _ _ _ => rfl⟩).2)
        have HT : Hid (Tch (OfFile O s.data.toList) w (w2.drew.setCell ⟨p, 1, none⟩ (.slice A2 t q2))) := (Tch.of_below (HB2.out.trans (below_drew (Below.refl _ _)) : Below w.heap.size w w2.drew)).trans (Tch.set _ ⟨p, 1, none⟩ _ (.inl HF.out.own))
        have HZ2 : Hid ((w2.drew.setCell ⟨p, 1, none⟩ (.slice A2 t q2)).heap.size = w2.heap.size) := set_size _ _ _
        have hT : ((t : Int)).toNat = t := Int.toNat_natCast t
        go_upto_region 6 with fail
        go_cut [] from 26 to 34 (fun wx => wx = w2.drew.setCell ⟨p, 1, none⟩ (.slice A2 t q2))
        case first =>
          go_region
          all_goals
            go_wp2_with fail
            go_meet
            rfl
        case rest =>
        obtain rfl := hcut
        generalize w2.drew.setCell ⟨p, 1, none⟩ (.slice A2 t q2) = W2 at HO HT HZ2 ⊢
        clear y3 g0 g1 g2 r0 r1 r2 gl HF2 HF3
        have hW2 := HT.out.size
        have y3 := (HT.out.cell (a := ⟨bb, 0, none⟩) l3 (fun h => HNB.out (of_own HS.out _ h))).trans x3
        obtain ⟨g0, g1, g2, r0, r1, r2, gl⟩ := HO.out.see
        have HNW : Hid (∀ b, w.heap.size ≤ b → paint O w2.drew.heap.size w2.drew.heap.size (.seen s.data.toList) b = .none) := fun b hb => by
          unfold paint
          rw [if_neg (by omega)]
          exact H.out.new hb
        have HTC : Hid (∀ k, paint O w2.drew.heap.size w2.drew.heap.size (.seen s.data.toList) k = .chgs s.data.toList → OfFile O s.data.toList k ∨ w.heap.size ≤ k) := fun k hk => by
          unfold paint at hk
          rw [if_neg (by omega)] at hk
          exact .inl (.inr (.inr (.inr hk)))
        go_upto_region 7 with fail
        have HOD := Lib.hid (HO.out.below (below_drew (Below.refl _ _)))
        go_region_law (first
          | (refine step_chg rfl (.tmp 39) (.tmp 42) 87 rfl Try.underlying87 W2.drew (.slice A3 n3 q3) f.chs ⟨true, t, []⟩ (.slice none 0 0) (fun k => paint O w2.drew.heap.size w2.drew.heap.size (.seen s.data.toList) k = .chgs s.data.toList ∨ w.heap.size ≤ k) (fun k => False) rfl rfl (Kd.R_nil _ _ _ _ _) (fun k hk => hk.elim) (fun k hk => .inr (Nat.le_trans hW2 hk)) (Kd.R_mono HOD.out.chgs (fun _ h => .inl h)) HNL.out ?_; intro v4 w4 hr hg; obtain ⟨N6, B6, q6, rfl⟩ : ∃ n A q, v4 = .slice A n q := (by obtain ⟨A_, q_, e_⟩ := Kd.R_slice hr; exact ⟨_, A_, q_, e_⟩); obtain ⟨⟨d0, d1, d2, z0, z1, z2, hpl4⟩, ho⟩ := HOD.out.put_chgs HNW.out hr hg; have HE := Lib.hid ho; have HZ4 : Hid (W2.heap.size ≤ w4.heap.size) := hg.size; have HT4 : Hid (Tch (OfFile O s.data.toList) w (w4.setCell ⟨p, 2, none⟩ (.slice B6 N6 q6))) := ((HT.out.trans (Tch.of_below (below_drew (Below.refl _ _)) : Tch (OfFile O s.data.toList) W2 W2.drew)).then_ (Tch.of_grown (S := fun k => paint O w2.drew.heap.size w2.drew.heap.size (.seen s.data.toList) k = .chgs s.data.toList) hg (fun k hk => HOD.out.chgs.1 k hk)) HTC.out).trans (Tch.set _ ⟨p, 2, none⟩ _ (.inl HF.out.own)); clear hr hg ho))
        all_goals
          have HGR : Hid (Grew O (paint (paint O w2.drew.heap.size w2.drew.heap.size (.seen s.data.toList)) w.heap.size w4.heap.size (.chgs s.data.toList)) s.data.toList w.heap.size w4.heap.size) := ((Grew.refl (hi := w.heap.size) s.data.toList (fun b hb => H.out.new hb)).paint (lo' := w2.drew.heap.size) (hi' := w2.drew.heap.size) HB2.out.size HB2.out.size (.inr (.inl rfl))).paint (lo' := w.heap.size) (hi' := w4.heap.size) (Nat.le_refl _) (by have h1 := HZ4.out; have h2 := HZ2.out; show w2.heap.size ≤ _; omega) (.inr (.inr rfl))
          go_wp2_with fail
          go_ret
          rw [HR.out]
          have HQ := cut_end H.out HS.out HZ.out (by rw [HLF.out]; rfl) (HK.out (s.data.toList, f) (look_mem (by rw [HLF.out]; rfl))) ⟨_, _, _, HE.out⟩ HT4.out (by rw [set_size]; exact HGR.out) (Int.natCast_nonneg t) (by rw [← HN.out]; omega)
          exact ⟨_, rfl, HQ⟩
end Go.Proofs.Ytkhopknpadncdaa
