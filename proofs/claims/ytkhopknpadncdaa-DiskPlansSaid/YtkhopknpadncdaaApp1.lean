/- Append's first function: what a step of it does. -/
import Derived.Test.YtkhopknpadncdaaUsed
namespace Go.Proofs.Ytkhopknpadncdaa
open Go Go.RowKit Go.Maps Go.Proofs.YtkhopknpadncdaaW.PrintWords Go.Proofs.Ytkhopknpadncdaa.PDiskMemory Go.Proofs.YtkhopknpadncdaaW.PrintMore
set_option linter.unusedVariables false
attribute [local go_sem] max2_int min2_int max_two min_two max_three min_three

theorem step_bel {w0 w w' : World} {B : Nat} (h : Below B w0 w) (hb : Below w.heap.size w w') (hB : B ≤ w.heap.size) : Below B w0 w' := h.trans (hb.mono hB)
theorem keep_cell {w0 w : World} {b o : Nat} {v : Value} {B : Nat} (h : Below B w0 w) (hb : b < B) (hc : w0.cell? ⟨b, o, none⟩ = some v) : w.cell? ⟨b, o, none⟩ = some v := (h.cell (p := ⟨b, o, none⟩) hb).trans hc
/-- A box of one cell. -/
def Box (w : World) (b : Nat) (v : Value) : Prop := w.cell? ⟨b, 0, none⟩ = some v
theorem Box.lt {w : World} {b : Nat} {v : Value} (h : Box w b v) : b < w.heap.size := World.block_lt_of_cell? w _ h
/-- The look-up of a file's name in a disk, as an equation of the run in whatever world behind some draws. -/
theorem DA.look {w : World} {d m : Nat} {O : Nat → Own} {k : Dk} {N : Nat} {pv : Value} {Z : List (Nm × (Nat × Fil))} (h : DA w d m O k N pv Z) {s : ByteArray} (hs : s.size ≤ maxLen) :
    ∀ q, (Instr.lookup 75 (.map (some m)) (.string s) false).run Try.prog (w.drewN q) = .ok (optr ((look Z s.data.toList).map (·.1))) (w.drewN q) := fun q => by
  have := (h.below (pw_below_drewN (Below.refl _ _) q)).mp.look_run hs
  rw [look_mapV] at this
  exact this
theorem DA.look_files {w : World} {d m : Nat} {O : Nat → Own} {k : Dk} {N : Nat} {pv : Value} {Z : List (Nm × (Nat × Fil))} (h : DA w d m O k N pv Z) (x : Nm) : Go.Proofs.Ytkhopknpadncdaa.look k.files x = (Go.Proofs.Ytkhopknpadncdaa.look Z x).map (·.2) := by
  rw [h.files, look_mapV]

theorem seen_le {L : List (Nm × Fil)} {p : Nm × Fil} (h : p ∈ L) : p.2.seen.length ≤ used L := by
  unfold used
  induction L with
  | nil => cases h
  | cons y r ih =>
    rw [List.map_cons, List.sum_cons]
    rcases List.mem_cons.1 h with e | e
    · rw [e]; omega
    · have := ih e; omega
/-- The owners' change of a file's turn, as the disk's footprint. -/
theorem turn_foot {S : Nat → Prop} {O O' : Nat → Own} {x : Nm} {lo hi : Nat} (hS : ∀ b, S b ↔ O b ≠ .none) (hG : Grew O O' x lo hi) : ∀ b, O' b ≠ .none → S b ∨ lo ≤ b := fun b hb => by
  by_cases hl : b < lo
  · rw [hG.old b hl] at hb; exact .inl ((hS b).2 hb)
  · exact .inr (by omega)
theorem of_own {S : Nat → Prop} {O : Nat → Own} {x : Nm} (hS : ∀ b, S b ↔ O b ≠ .none) : ∀ b, OfFile O x b → S b := fun b hb => (hS b).2 (by rcases hb with h | h | h | h <;> rw [h] <;> exact Own.noConfusion)
/-- Bytes put behind a file, seen from the disk. -/
theorem put_disk {w : World} {d m N : Nat} {O : Nat → Own} {k : Dk} {pv : Value} {Z : List (Nm × (Nat × Fil))} {S : Nat → Prop} {x : Nm} {p : Nat} {f : Fil} (h : DA w d m O k N pv Z) (hS : ∀ b, S b ↔ O b ≠ .none) (hz : Go.Proofs.Ytkhopknpadncdaa.look Z x = some (p, f)) (hl : Go.Proofs.Ytkhopknpadncdaa.look k.files x = some f)
    (b : List Int) (n : Nat) (hbig : f.seen.length + n ≤ big) (hnl : b.length ≤ n) (hb : Byt b) (hch : f.chs.length + 1 ≤ N) (hN : N ≤ 1000000000000) (A : Option Addr) (c : Nat) (hC : ∀ W, Tch S w W → (Kd.int .u8).C W A n b) :
    Calls Try.prog 45 #[.pointer (some ⟨p, 0, none⟩), .slice A n c] w (QPost S d N w { k with files := upd k.files x (putF f b) }) := by
  obtain ⟨sv, nv, cv, hF⟩ := h.file x p f (look_mem hz)
  have hfo := h.ok.1 (x, f) (look_mem hl)
  refine (put_any w O x p f sv nv cv hF (fun b hb => h.new hb) A n c b (fun W hW => hC W (hW.mono (of_own hS))) hbig (by have := hfo.2.1; simp only at this; omega)).mono ?_
  rintro e w' ⟨O', he, hF', hT, hG⟩
  refine ⟨fun b => O' b ≠ .none, he, ⟨m, O', pv, _, h.turn_file hl hz hF' hT.size (fun b hl hb => hT.block b hl hb) hG ⟨fun q hq => ?_, h.ok.2.1, h.ok.2.2.1, by show (upd k.files x _).length ≤ 256; rw [upd_length]; exact h.ok.2.2.2.1, h.ok.2.2.2.2⟩, fun b => Iff.rfl⟩, hT.mono (of_own hS), turn_foot hS hG⟩
  rcases mem_upd.1 hq with ⟨e, _⟩ | ⟨hq, _⟩
  · subst e
    refine ⟨?_, by show (f.chs ++ [_]).length ≤ N; rw [List.length_append]; exact hch, hfo.2.2⟩
    have := Wf.snoc (c := ⟨false, 0, b⟩) hfo.1 (by rw [if_neg (by simp)]; exact ⟨hb, by simp only; omega⟩)
    exact this
  · exact h.ok.1 q hq
theorem used_le {w : World} {d m : Nat} {O : Nat → Own} {k : Dk} {N : Nat} {pv : Value} {Z : List (Nm × (Nat × Fil))} (h : DA w d m O k N pv Z) : used k.files ≤ 256 * big := by
  have h1 := doneSum_le (fun f => f.seen.length) k.files (fun _ => false) big (fun p hp => (Wf.stop (h.ok.1 p hp).1).1)
  rw [doneSum_end _ (fun _ _ => rfl)] at h1
  exact Nat.le_trans h1 (Nat.mul_le_mul_right _ h.ok.2.2.2.1)
set_option maxRecDepth 100000 in
set_option maxHeartbeats 2000000 in
theorem append1_any (w : World) (d N : Nat) (S : Nat → Prop) (k : Dk) (s : ByteArray) (A : Option Addr) (n c : Nat) (b : List Int) (bd bn bb : Nat) (h : Disk w d S k N) (hk : ∀ p ∈ k.files, p.2.chs.length + 1 ≤ N) (hN : N ≤ 1000000000000) (hs : s.size ≤ maxLen)
    (x1 : Box w bd (.pointer (some ⟨d, 0, none⟩))) (x2 : Box w bn (.string s)) (x3 : Box w bb (.slice A n c)) (hC : ∀ W, Tch S w W → (Kd.int .u8).C W A n b) (hb : Byt b) (hbl : n ≤ big) :
    Calls Try.prog 43 #[.pointer (some ⟨bd, 0, none⟩), .pointer (some ⟨bn, 0, none⟩), .pointer (some ⟨bb, 0, none⟩)] w (SPost S d N w (appendD b s.data.toList k)) := by
  obtain ⟨m, O, pv, Z, h, hS⟩ := h
  obtain ⟨⟨c0, c1, _, _, _⟩, hdl⟩ := h.cells
  have l1 := x1.lt
  have l2 := x2.lt
  have l3 := x3.lt
  unfold Box at x1 x2 x3
  have LK := h.look hs
  have HD := Lib.hid (show Disk w d S k N from ⟨m, O, pv, Z, h, hS⟩)
  have H := Lib.hid h
  have HS := Lib.hid hS
  have HC := Lib.hid hC
  have HK := Lib.hid hk
  have HB := Lib.hid hb
  have HLF := Lib.hid (h.look_files s.data.toList)
  cases hz : look Z s.data.toList with
  | none =>
    rw [hz] at LK HLF
    have HLK := Lib.hid LK
    simp only [Option.map_none, optr] at LK
    have HR : Hid (appendD b s.data.toList k = (k, 183)) := by show _ = _; unfold appendD; rw [HLF.out]; rfl
    clear h hS hC hk hb hz
    go_enter Try.func43, Try.ntmps43
    go_wp2_with fail
    go_quiet (fail)
    go_wp2_with fail
    go_ret
    exact ⟨S, by rw [HR.out]; rfl, by rw [HR.out]; exact HD.out.below (pw_below_drewN (Below.refl _ _) _), Tch.of_below (pw_below_drewN (Below.refl _ _) _), fun b hb => .inl hb⟩
  | some pf =>
    obtain ⟨p, f⟩ := pf
    have hzm := look_mem hz
    rw [hz] at LK HLF
    simp only [Option.map_some, optr, fptr] at LK
    obtain ⟨U, hU⟩ : ∃ U, U = used k.files := ⟨_, rfl⟩
    have hub := used_le h
    rw [← hU] at hub
    have HU := Lib.hid hU
    have hrm := h.ok.2.1
    have hrm2 := h.ok.2.2.1
    obtain ⟨R, hR⟩ : ∃ R, R = k.room := ⟨_, rfl⟩
    rw [← hR] at c1 hrm hrm2
    have HRM := Lib.hid hR
    have hnl := (hC w (Tch.refl _ _)).1
    have HNL := Lib.hid hnl
    have HZ := Lib.hid hz
    have HZM := Lib.hid hzm
    have HUS := Lib.hid (fun (W : World) (hW : Below w.heap.size w W) => used_any W d N S k (HD.out.below hW))
    unfold big at hub hbl
    clear h hS hC hk hb hz hzm hU hR hnl
    go_enter Try.func43, Try.ntmps43
    go_upto_region 1 with fail
    go_cut [4] from 5 to 10 (fun v wx => v = .pointer (some ⟨p, 0, none⟩) ∧ Below w.heap.size w wx)
    case first =>
      go_quiet (fail)
      go_wp2_with fail
      go_meet
      exact ⟨rfl, pw_below_drewN (Below.refl _ _) _⟩
    case rest =>
    obtain ⟨rfl, hb1⟩ := hcut
    rename World => w1
    have HB1 := Lib.hid hb1
    have y1 := keep_cell hb1 l1 x1
    have y2 := keep_cell hb1 l2 x2
    have y3 := keep_cell hb1 l3 x3
    have d0 := keep_cell hb1 hdl c0
    have d1 := keep_cell hb1 hdl c1
    clear hb1 LK
    go_upto_region 4 with fail
    obtain ⟨B, hB⟩ : ∃ B, B = decide (R - (U : Int) < (n : Int)) := ⟨_, rfl⟩
    go_cut [14] from 15 to 24 (fun v wx => v = .bool B ∧ Below w.heap.size w wx)
    case first =>
      have hd : Below w.heap.size w w1.drew := HB1.out.trans (Below.drew (Below.refl _ _))
      go_region_held3 (fun w' => w'.cell? ⟨bd, 0, none⟩ = some (.pointer (some ⟨d, 0, none⟩)) ∧ w'.cell? ⟨bb, 0, none⟩ = some (.slice A n c) ∧ w'.cell? ⟨d, 1, none⟩ = some (.int .i64 R) ∧ Below w.heap.size w w') (go_keep)
        (first
          | (go_at_call 44; refine (HUS.out _ (‹_ ∧ _ ∧ _ ∧ Below w.heap.size w _›).2.2.2).mono ?_; rintro r wA ⟨rfl, hA⟩; rw [← HU.out]; have hA1 : Below w.heap.size w wA := step_bel (‹_ ∧ _ ∧ _ ∧ Below w.heap.size w _›).2.2.2 hA (by have := (‹_ ∧ _ ∧ _ ∧ Below w.heap.size w _›).2.2.2.size; omega); have p0 := keep_cell hA1 l1 x1; have p1 := keep_cell hA1 l3 x3; have p2 := keep_cell hA1 hdl c1))
      all_goals
        go_wp2_with fail
        go_meet
        exact ⟨by rw [hB, IntWalk.i64_in _ (by omega)], by assumption⟩
    case rest =>
    obtain ⟨rfl, hb2⟩ := hcut
    rename World => w2
    have HB2 := Lib.hid hb2
    have y1 := keep_cell hb2 l1 x1
    have y2 := keep_cell hb2 l2 x2
    have y3 := keep_cell hb2 l3 x3
    have HD2 := Lib.hid (H.out.below hb2)
    clear hb2
    by_cases hfit : R - (U : Int) < n
    · have hBt : B = true := by rw [hB]; exact decide_eq_true hfit
      have HR : Hid (appendD b s.data.toList k = (k, 182)) := by show _ = _; unfold appendD; rw [HLF.out]; simp only [Option.map_some]; rw [if_pos (by rw [← HRM.out, ← HU.out, HNL.out]; exact hfit)]
      subst hBt
      clear hfit hB
      go_wp2_with fail
      go_ret
      exact ⟨S, by rw [HR.out]; rfl, by rw [HR.out]; exact HD.out.below HB2.out, Tch.of_below HB2.out, fun b hb => .inl hb⟩
    · have hBf : B = false := by rw [hB]; exact decide_eq_false hfit
      have HR : Hid (appendD b s.data.toList k = ({ k with files := upd k.files s.data.toList (putF f b) }, 0)) := by show _ = _; unfold appendD; rw [HLF.out]; simp only [Option.map_some]; rw [if_neg (by rw [← HRM.out, ← HU.out, HNL.out]; exact hfit)]
      have hfb : f.seen.length ≤ U := by
        rw [HU.out]
        exact seen_le (look_mem (by rw [HLF.out]; rfl))
      have hbig : f.seen.length + n ≤ big := by unfold big; omega
      have HPUT := Lib.hid (put_disk HD2.out HS.out HZ.out HLF.out b n hbig (by rw [HNL.out]; exact Nat.le_refl _) HB.out (HK.out _ (look_mem (by rw [HLF.out]; rfl))) hN A c (fun W hW => HC.out W ((Tch.of_below HB2.out).trans hW)))
      subst hBf
      clear hfit hB hfb hbig
      go_wp2_with fail
      refine HPUT.out.mono ?_
      rintro e w3 ⟨S', rfl, hD3, hT3, hS3⟩
      have HD3 := Lib.hid hD3
      have HT3 := Lib.hid ((Tch.of_below HB2.out : Tch S w w2).trans hT3)
      have HS3 : Hid (∀ b, S' b → S b ∨ w.heap.size ≤ b) := fun b hb => (hS3 b hb).imp_right (fun h => by have := HB2.out.size; omega)
      clear hD3 hT3 hS3
      go_wp2_with fail
      go_ret
      exact ⟨S', by rw [HR.out]; rfl, by rw [HR.out]; exact HD3.out, HT3.out, HS3.out⟩
end Go.Proofs.Ytkhopknpadncdaa
