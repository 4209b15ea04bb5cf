/- (*Disk).On: its walk. -/
import Derived.Test.YtkhopknpadncdaaOn
namespace Go.Proofs.Ytkhopknpadncdaa
open Go Go.RowKit Go.Maps Go.Proofs.YtkhopknpadncdaaW.PrintWords Go.Proofs.Ytkhopknpadncdaa.PDiskMemory Go.Proofs.YtkhopknpadncdaaW.PrintMore
set_option linter.unusedVariables false

/-- A row of numbers that came in, apart from the disk. -/
def Keeps (w : World) (S : Nat → Prop) (A : Option Addr) (n : Nat) (l : List Int) : Prop :=
  l.length = n ∧ (∀ v ∈ l, v ≤ 9223372036854775807) ∧ (0 < n → ∃ b o, A = some ⟨b, o, none⟩ ∧ b < w.heap.size ∧ ¬ S b ∧ ∀ i, i < n → w.cell? ⟨b, o + i, none⟩ = some (.int .i64 (l.getD i 0)))
theorem name_at {w : World} {ok : Nat → Prop} {A : Option Addr} {n c i : Nat} {L : List ByteArray} {s : ByteArray} (h : RS w ok (.slice A n c) L) (hs : L[i]? = some s) : ∃ g, A = some ⟨g, 0, none⟩ ∧ g < w.heap.size ∧ w.cell? ⟨g, i, none⟩ = some (.string s) := by
  have hn := (Kd.R_reads' h).1
  have hi := (List.getElem?_eq_some_iff.1 hs).1
  obtain ⟨g, cap, e, _, hg, _⟩ := Kd.R_form h (by omega)
  injection e with e1 e2 e3
  subst e1
  obtain ⟨c', hcl, hM, hcc⟩ := Kd.R_getA h ByteArray.empty (i : Int) (by omega) (by omega)
  rw [Int.toNat_natCast] at hM hcc
  rw [List.getD_eq_getElem?_getD, hs, Option.getD_some] at hM
  have hM' : c' = [Value.string s] := hM
  subst hM'
  have := hcc 0 _ rfl
  rw [addr_zero] at this
  exact ⟨g, rfl, hg, by rw [show i = i * Kd.string.sz + 0 from (Nat.mul_one i).symm]; exact this⟩
theorem look_files_Z {w : World} {d m N : Nat} {O : Nat → Own} {k : Dk} {pv : Value} {Z : List (Nm × (Nat × Fil))} (h : DA w d m O k N pv Z) {x : Nm} {f : Fil} (hx : (x, f) ∈ k.files) : ∃ p, look Z x = some (p, f) ∧ look k.files x = some f := by
  have h1 := look_of_mem h.apartF hx
  have h2 := h.look_files x
  rw [h1] at h2
  cases hz : look Z x with
  | none => rw [hz] at h2; cases h2
  | some pf =>
    obtain ⟨p, g⟩ := pf
    rw [hz] at h2
    injection h2 with h2
    simp only at h2
    subst h2
    exact ⟨p, rfl, h1⟩
theorem DA.sortedF {w : World} {d m N : Nat} {O : Nat → Own} {k : Dk} {pv : Value} {Z : List (Nm × (Nat × Fil))} (h : DA w d m O k N pv Z) : Srt k.files := by
  have h1 := h.mp.sorted
  rw [h.files]
  unfold mapV at h1 ⊢
  have h2 := (List.pairwise_map (f := fun p : Nm × (Nat × Fil) => (p.1, p.2.1))).1 h1
  exact List.pairwise_map.2 h2

theorem Disk.apartFiles {w : World} {d N : Nat} {S : Nat → Prop} {k : Dk} (h : Disk w d S k N) : k.files.Pairwise fun a b => a.1 ≠ b.1 := by
  obtain ⟨m, O, pv, Z, h, hS⟩ := h
  exact h.apartF
set_option maxRecDepth 100000 in
set_option maxHeartbeats 4000000 in
theorem on_any (w : World) (d N : Nat) (S : Nat → Prop) (k : Dk) (A : Option Addr) (n c : Nat) (keeps : List Int) (h : Disk w d S k N) (hN : N ≤ 1000000000000) (hK : Keeps w S A n keeps) :
    Calls Try.prog 34 #[.pointer (some ⟨d, 0, none⟩), .slice A n c] w (QPost S d N w (onD keeps k)) := by
  have HD := Lib.hid h
  have HK := Lib.hid hK
  have hnb : k.files.length ≤ 256 := h.okk.2.2.2.1
  obtain ⟨M, hM⟩ : ∃ M, M = k.files.length := ⟨_, rfl⟩
  rw [← hM] at hnb
  have HM := Lib.hid hM
  have HNM := Lib.hid (names_any w d N S k h)
  have HSL : Hid (∀ b, S b → b < w.heap.size) := fun b hb => h.lt hb
  clear h hK hM
  go_enter Try.func34, Try.ntmps34
  go_wp2_with (go_at_call 64; refine HNM.out.mono ?_; rintro r w1 ⟨v1, rfl, hv, hb⟩; obtain ⟨M', hM', An, cn, rfl⟩ : ∃ n, n = (namesD k).length ∧ ∃ A q, v1 = .slice A n q := (by obtain ⟨A_, q_, e_⟩ := Kd.R_slice hv; exact ⟨_, rfl, A_, q_, e_⟩); obtain rfl : M = M' := (by rw [HM.out, hM']; unfold namesD; rw [List.length_map]); have HV := Lib.hid (show RS w1 (fun b => w.heap.size ≤ b ∧ b < w1.heap.size) (.slice An M cn) (namesD k) from Kd.R_mono (Kd.R_bound hv) (fun b hb => ⟨hb.1, hb.2.2.1⟩)); have HB1 := Lib.hid hb; clear hv hb hM')
  go_loopw [4, 5, 6, 7, 8, 12] (fun _ _ _ _ _ i wr => ∃ (j : Nat) (S' : Nat → Prop), j ≤ M ∧ i = .int .i64 j ∧ Hid (Disk wr d S' { k with files := onPre keeps k.files j } N) ∧ Hid (∀ b, S' b → S b ∨ w1.heap.size ≤ b) ∧ Hid (Tch S w wr) ∧ Hid (w1.heap.size ≤ wr.heap.size) ∧ Hid (RS wr (fun b => w.heap.size ≤ b ∧ b < w1.heap.size) (.slice An M cn) (namesD k))) (fun _ _ _ _ _ i _ => M - (intOf i).toNat)
  case atStart => exact ⟨0, S, Nat.zero_le _, rfl, HD.out.below HB1.out, fun b hb => .inl hb, Tch.of_below HB1.out, Nat.le_refl _, HV.out⟩
  case round =>
    clear HV
    obtain ⟨j, S', hj, rfl, HDJ, HSJ, HTJ, HZJ, HRS⟩ := hrel
    by_cases hjm : j < M
    · obtain ⟨xf, hxf⟩ : ∃ xf, k.files[j]? = some xf := ⟨_, List.getElem?_eq_getElem (by have := HM.out; omega)⟩
      obtain ⟨x, f⟩ := xf
      obtain ⟨g, rfl, hgl, hcn⟩ := name_at (s := toBA x) HRS.out (by unfold namesD; rw [List.getElem?_map, hxf]; rfl)
      obtain ⟨m, O, pv, Z, hDA, hS'⟩ := HDJ.out
      have hstep := onPre_step keeps HD.out.apartFiles hxf
      obtain ⟨p, hz, hlf⟩ := look_files_Z hDA (x := x) (f := f) hstep.2
      have hxs : (toBA x).size ≤ maxLen := by
        have := (HD.out.okk.1 (x, f) (List.mem_of_getElem? hxf)).2.2
        simp only at this
        show x.toArray.size ≤ maxLen
        rw [List.size_toArray]
        unfold maxLen
        omega
      have LK := hDA.mp.look_run hxs
      rw [show (toBA x).data.toList = x from rfl, look_mapV, hz] at LK
      simp only [Option.map_some, optr, fptr] at LK
      obtain ⟨⟨c0, _⟩, hdl⟩ := hDA.cells
      obtain ⟨sv, nv, cv, hF⟩ := hDA.file x p f (look_mem hz)
      have hfok := HD.out.okk.1 (x, f) (List.mem_of_getElem? hxf)
      simp only at hfok
      have HDA := Lib.hid hDA
      have HSS := Lib.hid hS'
      have HSTEP := Lib.hid hstep.1
      have HZL := Lib.hid hz
      have HLFL := Lib.hid hlf
      obtain ⟨uk, huk⟩ : ∃ uk, uk = kept keeps j := ⟨_, rfl⟩
      have hukb : uk ≤ 9223372036854775807 := by
        rw [huk]
        unfold kept
        split
        · rename_i hlt
          exact HK.out.2.1 _ (by rw [List.getD_eq_getElem?_getD, List.getElem?_eq_getElem hlt, Option.getD_some]; exact List.getElem_mem _)
        · omega
      have HAF := Lib.hid (fun (W : World) (hW : Below wr.heap.size wr W) => after_any W O x p f sv nv cv uk (hF.below hW) hfok.1 hukb (by omega))
      have HUK := Lib.hid huk
      have HFOK := Lib.hid hfok
      obtain ⟨s, hs⟩ : ∃ s, s = toBA x := ⟨_, rfl⟩
      rw [← hs] at hcn LK hxs
      have HSX := Lib.hid hs
      have HXS := Lib.hid hxs
      clear hxf hDA hS' hz hlf hF hfok huk hs hstep
      have hsd : s.data.toList = x := by rw [HSX.out]; rfl
      have HSD := Lib.hid hsd
      have HPUT : Hid (put (onPre keeps k.files j) x ⟨after f.safe f.chs uk, after f.safe f.chs uk, []⟩ = onPre keeps k.files (j + 1)) := by
        show _ = _
        rw [put_upd HDA.out.sortedF HLFL.out, HUK.out]
        exact HSTEP.out
      have HOK : Hid (Dk.ok { k with files := put (onPre keeps k.files j) x ⟨after f.safe f.chs uk, after f.safe f.chs uk, []⟩ } N) := by
        rw [HPUT.out]
        exact onPre_ok HD.out.okk (j + 1)
      have HLL : Hid ((onPre keeps k.files j).length < maxLen) := by show _ < _; have := HDA.out.ok.2.2.2.1; simp only at this; unfold maxLen; omega
      clear hsd
      by_cases hjn : j < n
      · have hukc : uk = keeps.getD j 0 := by rw [HUK.out]; unfold kept; rw [if_pos (by rw [HK.out.1]; exact hjn)]
        obtain ⟨kb, ko, rfl, hkl, hks, hkc⟩ := HK.out.2.2 (by omega)
        have hkj := (HTJ.out.cell (a := ⟨kb, ko + j, none⟩) hkl hks).trans (hkc j hjn)
        rw [← hukc] at hkj
        have hkl2 := Nat.lt_of_lt_of_le hkl HTJ.out.size
        clear hkc hukc hks
        go_upto_region 8 with (go_at_call 65; refine (HAF.out _ (Below.refl _ _)).mono ?_; rintro r wA ⟨vA, rfl, hv, hb⟩; obtain ⟨NA, BA, qA, rfl⟩ : ∃ n A q, vA = .slice A n q := (by obtain ⟨A_, q_, e_⟩ := Kd.R_slice hv; exact ⟨_, A_, q_, e_⟩); have HVA := Lib.hid hv; have HBA := Lib.hid hb; clear hv hb)
        obtain ⟨⟨e0, _⟩, hdl2⟩ := (HDA.out.below HBA.out).cells
        have HNE : Hid (NA = (after f.safe f.chs uk).length) := (Kd.R_reads' HVA.out).1
        have HNLA : Hid (NA * 1 ≤ 140737488355328) := by show _ ≤ _; rw [HNE.out]; have := (after_ok uk HFOK.out.1).1; unfold big at this; omega
        have HCA : Hid ((Kd.int .u8).C wA.drew BA NA (after f.safe f.chs uk)) := by rw [HNE.out]; exact Kd.C_below (Kd.R_reads' HVA.out).2.2 (below_drew (Below.refl _ _))
        go_region_law (go_simp; go_at_call 58; refine (clone_bytes BA NA qA (after f.safe f.chs uk) _ HCA.out HNLA.out).mono ?_; rintro r wB ⟨vB, rfl, hv, hb⟩; obtain ⟨N6, B6, q6, rfl⟩ : ∃ n A q, vB = .slice A n q := (by obtain ⟨A_, q_, e_⟩ := Kd.R_slice hv; exact ⟨_, A_, q_, e_⟩); have HVB := Lib.hid hv; have HBB : Hid (Below wA.heap.size wA wB) := (below_drew (Below.refl _ _)).trans hb; have hBB : Hid (Below wr.heap.size wr wB) := HBA.out.trans (HBB.out.mono HBA.out.size); obtain ⟨⟨e0, _⟩, hdl3⟩ := (HDA.out.below hBB.out).cells; obtain ⟨wx, hrx, hmx, hgx⟩ := put_box HDA.out hBB.out HLL.out HXS.out (.slice BA NA qA) (.slice B6 N6 q6); rw [HSD.out] at hmx; have HEX := Lib.hid (enter_end HDA.out HSS.out (Below.refl _ _) HVA.out HBA.out HVB.out HBB.out (.inl ⟨rfl, rfl⟩) hmx hgx HOK.out); clear hv hb hmx hgx)
        all_goals
          have hE := HEX.out
          rw [HPUT.out] at hE
          obtain ⟨S2, hD2, hT2, hS2⟩ := hE
          have HD2 := Lib.hid hD2
          have HS2 : Hid (∀ b, S2 b → S b ∨ w1.heap.size ≤ b) := fun b hb => (hS2 b hb).elim (fun h => HSJ.out b h) (fun h => .inr (Nat.le_trans HZJ.out h))
          have HT2 : Hid (Tch S w _) := HTJ.out.then_ hT2 (fun b hb => (HSJ.out b hb).imp_right (fun h => Nat.le_trans HB1.out.size h))
          have HZ2 : Hid (w1.heap.size ≤ _) := Nat.le_trans HZJ.out hT2.size
          have HR2 := Lib.hid (Kd.R_step HRS.out (fun b hb hl => hT2.block b hl (fun hs => by
            rcases HSJ.out b hs with h | h
            · have := HSL.out b h; have := hb.1; omega
            · have := hb.2; omega)))
          clear hD2 hT2 hS2
          go_wp2_with fail
          go_roundw
          case rel => exact ⟨j + 1, S2, by omega, by go_num, HD2.out, HS2.out, HT2.out, HZ2.out, HR2.out⟩
          case measure => simp [intOf]; omega
      · have hukc : uk = 0 := by rw [HUK.out]; unfold kept; rw [if_neg (by rw [HK.out.1]; exact hjn)]
        subst hukc
        go_upto_region 8 with (go_at_call 65; refine (HAF.out _ (Below.refl _ _)).mono ?_; rintro r wA ⟨vA, rfl, hv, hb⟩; obtain ⟨NA, BA, qA, rfl⟩ : ∃ n A q, vA = .slice A n q := (by obtain ⟨A_, q_, e_⟩ := Kd.R_slice hv; exact ⟨_, A_, q_, e_⟩); have HVA := Lib.hid hv; have HBA := Lib.hid hb; clear hv hb)
        obtain ⟨⟨e0, _⟩, hdl2⟩ := (HDA.out.below HBA.out).cells
        have HNE : Hid (NA = (after f.safe f.chs 0).length) := (Kd.R_reads' HVA.out).1
        have HNLA : Hid (NA * 1 ≤ 140737488355328) := by show _ ≤ _; rw [HNE.out]; have := (after_ok 0 HFOK.out.1).1; unfold big at this; omega
        have HCA : Hid ((Kd.int .u8).C wA.drew BA NA (after f.safe f.chs 0)) := by rw [HNE.out]; exact Kd.C_below (Kd.R_reads' HVA.out).2.2 (below_drew (Below.refl _ _))
        go_region_law (go_simp; go_at_call 58; refine (clone_bytes BA NA qA (after f.safe f.chs 0) _ HCA.out HNLA.out).mono ?_; rintro r wB ⟨vB, rfl, hv, hb⟩; obtain ⟨N6, B6, q6, rfl⟩ : ∃ n A q, vB = .slice A n q := (by obtain ⟨A_, q_, e_⟩ := Kd.R_slice hv; exact ⟨_, A_, q_, e_⟩); have HVB := Lib.hid hv; have HBB : Hid (Below wA.heap.size wA wB) := (below_drew (Below.refl _ _)).trans hb; have hBB : Hid (Below wr.heap.size wr wB) := HBA.out.trans (HBB.out.mono HBA.out.size); obtain ⟨⟨e0, _⟩, hdl3⟩ := (HDA.out.below hBB.out).cells; obtain ⟨wx, hrx, hmx, hgx⟩ := put_box HDA.out hBB.out HLL.out HXS.out (.slice BA NA qA) (.slice B6 N6 q6); rw [HSD.out] at hmx; have HEX := Lib.hid (enter_end HDA.out HSS.out (Below.refl _ _) HVA.out HBA.out HVB.out HBB.out (.inl ⟨rfl, rfl⟩) hmx hgx HOK.out); clear hv hb hmx hgx)
        all_goals
          have hE := HEX.out
          rw [HPUT.out] at hE
          obtain ⟨S2, hD2, hT2, hS2⟩ := hE
          have HD2 := Lib.hid hD2
          have HS2 : Hid (∀ b, S2 b → S b ∨ w1.heap.size ≤ b) := fun b hb => (hS2 b hb).elim (fun h => HSJ.out b h) (fun h => .inr (Nat.le_trans HZJ.out h))
          have HT2 : Hid (Tch S w _) := HTJ.out.then_ hT2 (fun b hb => (HSJ.out b hb).imp_right (fun h => Nat.le_trans HB1.out.size h))
          have HZ2 : Hid (w1.heap.size ≤ _) := Nat.le_trans HZJ.out hT2.size
          have HR2 := Lib.hid (Kd.R_step HRS.out (fun b hb hl => hT2.block b hl (fun hs => by
            rcases HSJ.out b hs with h | h
            · have := HSL.out b h; have := hb.1; omega
            · have := hb.2; omega)))
          clear hD2 hT2 hS2
          go_wp2_with fail
          go_roundw
          case rel => exact ⟨j + 1, S2, by omega, by go_num, HD2.out, HS2.out, HT2.out, HZ2.out, HR2.out⟩
          case measure => simp [intOf]; omega
    · obtain rfl : j = M := by omega
      have HE : Hid (onPre keeps k.files j = onL keeps k.files 0) := onPre_all _ _ (by have := HM.out; omega)
      obtain ⟨_, _, c4, f4, hdl⟩ := HDJ.out.own4
      go_wp2_with fail
      go_end0
      refine ⟨S', rfl, ?_, HTJ.out.then_ (Tch.set (S := S') _ ⟨d, 4, none⟩ _ HDJ.out.self) (fun b hb => (HSJ.out b hb).imp_right (fun h => Nat.le_trans HB1.out.size h)), fun b hb => (HSJ.out b hb).imp_right (fun h => Nat.le_trans HB1.out.size h)⟩
      have := HDJ.out.turn false
      rw [HE.out] at this
      exact this
end Go.Proofs.Ytkhopknpadncdaa
