/- Sync's and Remove's functions: what a step of them does. -/
import Derived.Test.YtkhopknpadncdaaCut1
namespace Go.Proofs.Ytkhopknpadncdaa
open Go Go.RowKit Go.Maps Go.Proofs.YtkhopknpadncdaaW.PrintWords Go.Proofs.Ytkhopknpadncdaa.PDiskMemory Go.Proofs.YtkhopknpadncdaaW.PrintMore
set_option linter.unusedVariables false

theorem sync_end {w w' : World} {d m N : Nat} {O O' : Nat → Own} {k : Dk} {pv : Value} {Z : List (Nm × (Nat × Fil))} {S : Nat → Prop} {x : Nm} {p : Nat} {f : Fil} (h : DA w d m O k N pv Z) (hS : ∀ b, S b ↔ O b ≠ .none) (hz : Go.Proofs.Ytkhopknpadncdaa.look Z x = some (p, f)) (hl : Go.Proofs.Ytkhopknpadncdaa.look k.files x = some f)
    (hF : File w' O' x p ⟨f.seen, f.seen, []⟩) (hT : Tch (OfFile O x) w w') (hG : Grew O O' x w.heap.size w'.heap.size) :
    Disk w' d (fun b => O' b ≠ .none) { k with files := upd k.files x ⟨f.seen, f.seen, []⟩ } N ∧ Tch S w w' ∧ ∀ b, O' b ≠ .none → S b ∨ w.heap.size ≤ b := by
  have hfo := h.ok.1 (x, f) (look_mem hl)
  refine ⟨⟨m, O', pv, _, h.turn_file hl hz hF hT.size (fun b hl hb => hT.block b hl hb) hG ⟨fun q hq => ?_, h.ok.2.1, h.ok.2.2.1, by show (upd k.files x _).length ≤ 256; rw [upd_length]; exact h.ok.2.2.2.1, h.ok.2.2.2.2⟩, fun b => Iff.rfl⟩, hT.mono (of_own hS), turn_foot hS hG⟩
  rcases mem_upd.1 hq with ⟨e, _⟩ | ⟨hq, _⟩
  · subst e
    have h1 := Wf.stop hfo.1
    exact ⟨Wf.refl h1.1 h1.2, Nat.zero_le _, hfo.2.2⟩
  · exact h.ok.1 q hq
set_option maxRecDepth 100000 in
set_option maxHeartbeats 2000000 in
theorem sync1_any (w : World) (d N : Nat) (S : Nat → Prop) (k : Dk) (s : ByteArray) (bd bn : Nat) (h : Disk w d S k N) (hs : s.size ≤ maxLen)
    (x1 : Box w bd (.pointer (some ⟨d, 0, none⟩))) (x2 : Box w bn (.string s)) :
    Calls Try.prog 61 #[.pointer (some ⟨bd, 0, none⟩), .pointer (some ⟨bn, 0, none⟩)] w (SPost S d N w (syncD s.data.toList k)) := by
  obtain ⟨m, O, pv, Z, h, hS⟩ := h
  obtain ⟨⟨c0, c1, _, _, _⟩, hdl⟩ := h.cells
  have l1 := x1.lt
  have l2 := x2.lt
  unfold Box at x1 x2
  have LK := h.look hs
  have HD := Lib.hid (show Disk w d S k N from ⟨m, O, pv, Z, h, hS⟩)
  have H := Lib.hid h
  have HS := Lib.hid hS
  have HLF := Lib.hid (h.look_files s.data.toList)
  cases hz : look Z s.data.toList with
  | none =>
    rw [hz] at LK HLF
    have HLK := Lib.hid LK
    simp only [Option.map_none, optr] at LK
    have HR : Hid (syncD s.data.toList k = (k, 183)) := by show _ = _; unfold syncD; rw [HLF.out]; rfl
    clear h hS hz
    go_enter Try.func61, Try.ntmps61
    go_wp2_with fail
    go_quiet (fail)
    go_wp2_with fail
    go_ret
    exact ⟨S, by rw [HR.out]; rfl, by rw [HR.out]; exact HD.out.below (pw_below_drewN (Below.refl _ _) _), Tch.of_below (pw_below_drewN (Below.refl _ _) _), fun b hb => .inl hb⟩
  | some pf =>
    obtain ⟨p, f⟩ := pf
    have hzm := look_mem hz
    rw [hz] at LK HLF
    simp only [Option.map_some, optr, fptr] at LK
    obtain ⟨sv, nv, cv, hF⟩ := h.file _ p f hzm
    obtain ⟨A1, q1, A2, q2, A3, q3, e1, e2, e3⟩ := hF.lens
    have hbig := (Wf.stop (h.ok.1 (s.data.toList, f) (look_mem (by rw [HLF.out]; rfl))).1).1
    simp only at hbig
    obtain ⟨n, hn⟩ : ∃ n, n = f.seen.length := ⟨_, rfl⟩
    rw [← hn] at e2 hbig
    subst e2
    have HF := Lib.hid hF
    have HN := Lib.hid hn
    have HZ := Lib.hid hz
    have HNL : Hid (n * 1 ≤ 140737488355328) := by show _ ≤ _; unfold big at hbig; omega
    have HR : Hid (syncD s.data.toList k = ({ k with files := upd k.files s.data.toList ⟨f.seen, f.seen, []⟩ }, 0)) := by show _ = _; unfold syncD; rw [HLF.out]; rfl
    clear h hS hz hzm hF e1 e3 hn hbig
    go_enter Try.func61, Try.ntmps61
    go_upto_region 1 with fail
    go_cut [3] from 4 to 9 (fun v wx => v = .pointer (some ⟨p, 0, none⟩) ∧ Below w.heap.size w wx)
    case first =>
      go_quiet (fail)
      go_wp2_with fail
      go_meet
      exact ⟨rfl, pw_below_drewN (Below.refl _ _) _⟩
    case rest =>
    obtain ⟨rfl, hb1⟩ := hcut
    rename World => w1
    have HB1 := Lib.hid hb1
    have HF1 := Lib.hid (HF.out.step (fun b hl _ => hb1.block b hl))
    obtain ⟨g0, g1, g2, r0, r1, r2, gl⟩ := HF1.out.see
    have HCS : Hid ((Kd.int .u8).C w1 A2 n f.seen) := by rw [HN.out]; exact (Kd.R_reads' HF1.out.seen).2.2
    clear hb1 LK
    go_upto_region 5 with (go_at_call 58; refine (clone_bytes A2 n q2 f.seen w1 HCS.out HNL.out).mono ?_; rintro r w3 ⟨v3, rfl, hv, hb⟩; obtain ⟨N5, B5, q5, rfl⟩ : ∃ n A q, v3 = .slice A n q := (by obtain ⟨A_, q_, e_⟩ := Kd.R_slice hv; exact ⟨_, A_, q_, e_⟩); obtain ⟨⟨d0, d1, d2, z0, z1, z2, hpl4⟩, ho⟩ := HF1.out.put_safe hv hb; have HB3 := Lib.hid hb; have HO := Lib.hid ho; clear hv hb ho)
    go_wp2_with fail
    go_ret
    rw [HR.out]
    have HT : Tch (OfFile O s.data.toList) w ((w3.setCell ⟨p, 0, none⟩ (.slice B5 N5 q5)).setCell ⟨p, 2, none⟩ (.slice none 0 0)) := (((Tch.of_below HB1.out).trans (Tch.of_below HB3.out)).trans (Tch.set _ ⟨p, 0, none⟩ _ (.inl HF.out.own))).trans (Tch.set _ ⟨p, 2, none⟩ _ (.inl HF.out.own))
    have HG : Grew O (paint O w1.heap.size w3.heap.size (.safe s.data.toList)) s.data.toList w.heap.size w3.heap.size := (Grew.refl (hi := w.heap.size) s.data.toList (fun b hb => H.out.new hb)).paint (lo' := w1.heap.size) (hi' := w3.heap.size) HB1.out.size (Nat.le_trans HB1.out.size HB3.out.size) (.inl rfl)
    have HQ := sync_end H.out HS.out HZ.out (by rw [HLF.out]; rfl) ⟨_, _, _, HO.out⟩ HT (by rw [set_size, set_size]; exact HG)
    exact ⟨_, rfl, HQ⟩

/-- 'delete(m, k)', as an equation of the run. -/
theorem ML.del_run {w : World} {b : Nat} {L : List (Nm × Nat)} (h : ML w b L) {s : ByteArray} (hs : s.size ≤ maxLen) (ty : TypeId) :
    ∃ w', (Builtin.delete_ #[75, 9] ty #[.map (some b), .string s]).run Try.prog w = .ok (.tuple #[]) w' ∧ ML w' b (del L s.data.toList) ∧ w.grownBy w' (some b) := by
  obtain ⟨w', hrun, r1, r2⟩ := World.ownsMap.drop h keyed Try.underlying75 (hkey hs) ty
  rw [dat_del] at r1
  exact ⟨w', hrun, ML.of r1, r2.grown⟩
end Go.Proofs.Ytkhopknpadncdaa
