/- DiskFails: its walk. -/
import Derived.Test.YtkhopknpadncdaaFailsD
import Derived.Test.YtkhopknpadncdaaPlans
namespace Go.Proofs.Ytkhopknpadncdaa
open Go Go.RowKit Go.Maps Go.Proofs.YtkhopknpadncdaaW.PrintWords Go.Proofs.Ytkhopknpadncdaa.PDiskFails Go.Proofs.YtkhopknpadncdaaW.PrintMore
set_option linter.unusedVariables false

theorem loadF_bad {w : World} {A : Option Addr} {n c : Nat} {fs : List SF} {ev : Int} {ok : Nat → Prop} {base : Nat} (h : RF w base ok (.slice A n c) fs) (hl : fs.length ≤ 3518437208882) (hf : ∀ f ∈ fs, f.f0.size ≤ maxLen ∧ Byt f.f1 ∧ f.f1.length ≤ big) (he : (loadD 16777216 fs).2 = ev) (h0 : ¬ ev = 0) :
    Calls Try.prog 13 #[.int .i64 16777216, .slice A n c] w fun e w' => e = .returned (.tuple #[.pointer none, .int .i64 ev]) ∧ Below w.heap.size w w' := by
  refine (load_any w 16777216 A n c fs (frow_of h) (by have := (Kd.S_reads' h).1; omega) hf).mono fun e w' hp => ?_
  rcases hp with ⟨h1, _⟩ | ⟨_, h2, h3⟩
  · exact absurd (he ▸ h1) h0
  · rw [he] at h2
    exact ⟨h2, h3⟩
theorem loadF_ok {w : World} {A : Option Addr} {n c : Nat} {fs : List SF} {ok : Nat → Prop} {base : Nat} (h : RF w base ok (.slice A n c) fs) (hl : fs.length ≤ 3518437208882) (hf : ∀ f ∈ fs, f.f0.size ≤ maxLen ∧ Byt f.f1 ∧ f.f1.length ≤ big) (he : (loadD 16777216 fs).2 = 0) :
    Calls Try.prog 13 #[.int .i64 16777216, .slice A n c] w fun e w' => ∃ d, e = .returned (.tuple #[.pointer (some ⟨d, 0, none⟩), .int .i64 0]) ∧ Al w w' d (loadD 16777216 fs).1 0 := by
  refine (load_any w 16777216 A n c fs (frow_of h) (by have := (Kd.S_reads' h).1; omega) hf).mono fun e w' hp => ?_
  rcases hp with ⟨_, h1⟩ | ⟨h2, _⟩
  · exact h1
  · exact absurd he h2
theorem below_setx {w0 w : World} (h : Below w0.heap.size w0 w) (p : Addr) (v : Value) (hp : w0.heap.size ≤ p.block) : Below w0.heap.size w0 (w.setCell p v) :=
  h.trans ((Tch.set (S := fun b => b = p.block) w p v rfl).below h.size (fun k hk => by rw [hk]; exact hp))
theorem filesD_ok {k : Dk} {N : Nat} (h : k.ok N) : (filesD (·.seen) k).length ≤ 3518437208882 ∧ ∀ f ∈ filesD (·.seen) k, f.f1.length ≤ big := by
  refine ⟨by unfold filesD; rw [List.length_map]; have := h.2.2.2.1; omega, fun f hf => ?_⟩
  obtain ⟨p, hp, rfl⟩ := List.mem_map.1 hf
  exact (h.1 p hp).1.stop.1
set_option maxRecDepth 100000 in
set_option maxHeartbeats 8000000 in
theorem failsL_any (w : World) (A0 : Option Addr) (n0 c0 : Nat) (fs : List SF) (kd n m kind : Int) (nm : ByteArray) (A A5 A6 : Option Addr) (p c n5 c5 n6 c6 : Nat) (b : List Int)
    (hC0 : k45.C w A0 n0 fs) (hc0 : n0 ≤ c0) (hl : fs.length ≤ 3518437208882) (hf : ∀ f ∈ fs, f.f0.size ≤ maxLen ∧ Byt f.f1 ∧ f.f1.length ≤ big)
    (hs : nm.size ≤ maxLen) (hC : (Kd.int .u8).C w A p b) (hpc : p ≤ c) (hb : Byt b) (hp : p ≤ big) :
    Calls Try.prog 6 #[.slice A0 n0 c0, .agg (opV kd n m nm A p c A5 A6 n5 c5 n6 c6), .int .i64 kind] w fun e w' => e = .returned (.bool true) ∧ Below w.heap.size w w' := by
  have HC0 := Lib.hid hC0
  have HF := Lib.hid hf
  have HFL : Hid (∀ f ∈ fs, f.f1.length ≤ big) := fun f h => (hf f h).2.2
  have HL := Lib.hid hl
  have HS := Lib.hid hs
  have HC := Lib.hid hC
  have HB := Lib.hid hb
  have HB0 : Hid (Below w.heap.size w (w.alloc (.cells (opV kd n m nm A p c A5 A6 n5 c5 n6 c6) 71))) := (Below.refl _ _).alloc (Nat.le_refl _) _
  have HBX := Lib.hid (heap_alloc_new w (.cells (opV kd n m nm A p c A5 A6 n5 c5 n6 c6) 71))
  have HAL := Lib.hid (fun W => alive_any W)
  unfold opV at HB0 HBX ⊢
  clear hC0 hf hl hs hC hb
  obtain ⟨ev, hev⟩ : ∃ ev, (loadD 16777216 fs).2 = ev := ⟨_, rfl⟩
  have HEV := Lib.hid hev
  by_cases h0 : ev = 0
  · subst h0
    clear hev
    obtain ⟨K, hK⟩ : ∃ K, K = (loadD 16777216 fs).1 := ⟨_, rfl⟩
    have HFR : Hid (Fresh K) := by show Fresh K; rw [hK]; exact Fresh.load fs (newD_fresh _)
    have HKE := Lib.hid hK
    clear hK
    go_enter Try.func6, Try.ntmps6
    go_upto_region 1 with fail
    generalize w.alloc (.cells #[.int .i64 kd, .string nm, .int .i64 n, .int .i64 m, .slice A p c, .slice A5 n5 c5, .slice A6 n6 c6] 71) = W0 at HB0 HBX ⊢
    have HCW : Hid ((Kd.int .u8).C W0 A p b) := Kd.C_below HC.out HB0.out
    go_upto_region 4 with (first
      | (go_at_call 7; refine (HAL.out _).mono ?_; rintro e w1 ⟨rfl, hb⟩; have HB1 := Lib.hid hb; clear hb)
      | (go_at_call 12; refine (twinF_any A0 n0 c0 fs _ (Kd.C_below (Kd.C_below HC0.out HB0.out) HB1.out) hc0 HL.out HFL.out).mono ?_; rintro e w2 ⟨A2, q2, rfl, hr, hb⟩; have HR2 := Lib.hid hr; have HB2 : Hid (Below W0.heap.size W0 w2) := HB1.out.trans (hb.mono HB1.out.size); clear hr hb)
      | (go_at_call 13; refine (loadF_ok HR2.out HL.out HF.out HEV.out).mono ?_; rw [← HKE.out]; rintro e w3 ⟨d, rfl, h⟩; have H3 : Hid (Al W0 w3 d K 0) := h.lower HB2.out; clear h))
    have hbl := blk_lt HBX.out
    have hw3 := Nat.lt_of_lt_of_le hbl H3.out.bl.size
    have x0 := (H3.out.bl.cell (p := ⟨w.heap.size, 0, none⟩) hbl).trans ((blk_cell HBX.out 0).trans rfl)
    have HFIN : Hid (∀ W, Below W0.heap.size W0 W → Below w.heap.size w W) := fun W hW => HB0.out.trans (hW.mono HB0.out.size)
    by_cases q1 : kd < 1
    · go_wp2_with fail
      go_ret
      exact ⟨rfl, HFIN.out _ H3.out.bl⟩
    by_cases q5 : 5 < kd
    · go_wp2_with fail
      go_ret
      exact ⟨rfl, HFIN.out _ H3.out.bl⟩
    obtain ⟨G, hG⟩ : ∃ G, G = filesD (·.seen) K := ⟨_, rfl⟩
    have HG := Lib.hid hG
    have HGK : Hid (G.length ≤ 3518437208882 ∧ ∀ f ∈ G, f.f1.length ≤ big) := by show _ ∧ _; rw [hG]; exact filesD_ok H3.out.okk
    clear hG
    go_upto_region 10 with (go_at_call 19; refine (al_files H3.out).mono ?_; rw [← HG.out]; rintro e w4 ⟨v4, rfl, hv, hb⟩; obtain ⟨M, A4, q4, rfl⟩ : ∃ M A q, v4 = .slice A M q := (by obtain ⟨A_, q_, e_⟩ := Kd.S_slice hv; exact ⟨_, A_, q_, e_⟩); have H4 : Hid (Fx W0 w4 d K 0 (.slice A4 M q4) G) := H3.out.rowF hb hv; clear hv hb)
    --CASES
    by_cases hk1 : kind = 1
    · subst hk1
      obtain ⟨K1, hK1⟩ : ∃ K1, K1 = ({ planD K [⟨1, 1, 0⟩] with steps := 1, off := decide ((1 : Int) = 3) } : Dk) := ⟨_, rfl⟩
      have HONE : Hid (stepO kd nm.data.toList n b (planD K [⟨1, 1, 0⟩]) = (K1, 181)) := by show _ = _; rw [fails_one HFR.out kd nm.data.toList n b 1 (by decide), hK1]; rfl
      have HST1 : Hid (K1.steps = 1) := by show _ = _; rw [hK1]
      have HOFF : Hid (K1.off = false) := by show _ = _; rw [hK1]; rfl
      have HF1 : Hid (filesD (·.seen) K1 = G) := by show _ = _; rw [hK1, HG.out]; rfl
      have HF2 : Hid (filesD (·.seen) (onD [1099511627776] K1) = G) := by show _ = _; rw [HG.out]; exact fails_on HFR.out (by rw [hK1]; rfl) _
      have HST2 : Hid ((onD [1099511627776] K1).steps = 1) := by show K1.steps = 1; exact HST1.out
      have HOFF2 : Hid ((onD [1099511627776] K1).off = false) := rfl
      clear hK1
      go_upto_region 12 with (go_at_call 9; refine (fx_plan H4.out ((Below.refl _ _).alloc (Nat.le_refl _) _) (some ⟨w4.heap.size, 0, none⟩) 1 1 [⟨1, 1, 0⟩] (fat1_C 1 1 0 (heap_alloc_new _ _)) (by decide)).mono ?_; rintro e w5 ⟨rfl, h⟩; have H5 := Lib.hid h; clear h)
      have hw5 := Nat.lt_of_lt_of_le hbl H5.out.bl.size
      have y0 := (H5.out.bl.cell (p := ⟨w.heap.size, 0, none⟩) hbl).trans ((blk_cell HBX.out 0).trans rfl)
      have y1 := (H5.out.bl.cell (p := ⟨w.heap.size, 1, none⟩) hbl).trans ((blk_cell HBX.out 1).trans rfl)
      have y2 := (H5.out.bl.cell (p := ⟨w.heap.size, 2, none⟩) hbl).trans ((blk_cell HBX.out 2).trans rfl)
      have y3 := (H5.out.bl.cell (p := ⟨w.heap.size, 3, none⟩) hbl).trans ((blk_cell HBX.out 3).trans rfl)
      have y4 := (H5.out.bl.cell (p := ⟨w.heap.size, 4, none⟩) hbl).trans ((blk_cell HBX.out 4).trans rfl)
      have y5 := (H5.out.bl.cell (p := ⟨w.heap.size, 5, none⟩) hbl).trans ((blk_cell HBX.out 5).trans rfl)
      have y6 := (H5.out.bl.cell (p := ⟨w.heap.size, 6, none⟩) hbl).trans ((blk_cell HBX.out 6).trans rfl)
      go_upto_region 15 with (first
        | (go_at_call 38; refine (fx_lstep H5.out kd n m nm A A5 A6 p c n5 c5 n6 c6 b (by decide) HS.out HCW.out hpc HB.out hp).mono ?_; rw [HONE.out]; rintro e w6 ⟨rfl, h⟩; have H6 : Hid (Fx W0 w6 d K1 1 (.slice A4 M q4) G) := h; clear h)
        | (go_at_call 39; refine (al_power H6.out.al).mono ?_; rw [HOFF.out]; rintro e w7 ⟨rfl, hw⟩; obtain rfl := hw.symm; clear hw))
      clear y0 y1 y2 y3 y4 y5 y6 hw5
      go_upto_region 17 with (first
        | (go_at_call 19; refine (al_files H6.out.al).mono ?_; rw [HF1.out]; rintro e w8 ⟨v8, rfl, hv, hb⟩; obtain ⟨M8, A8, q8, rfl⟩ : ∃ M A q, v8 = .slice A M q := (by obtain ⟨A_, q_, e_⟩ := Kd.S_slice hv; exact ⟨_, A_, q_, e_⟩); have H8 := Lib.hid (H6.out.below hb); have HV8 := Lib.hid hv; obtain rfl : M = M8 := (by rw [(Kd.S_reads' H8.out.row).1, (Kd.S_reads' hv).1]); clear hv hb)
        | (go_at_call 22; refine (alikeF_any A8 A4 M q8 q4 G _ (by have h := Kd.S_reads' HV8.out; rw [h.1]; exact h.2.2) (Kd.S_reads' HV8.out).2.1 (by have h := Kd.S_reads' H8.out.row; rw [h.1]; exact h.2.2) (Kd.S_reads' H8.out.row).2.1 HGK.out.1 HGK.out.2).mono ?_; rintro e w9 ⟨rfl, hb⟩; have H9 := Lib.hid (H8.out.below hb); clear hb)
        | (go_at_call 11; refine (al_steps H9.out.al).mono ?_; rw [HST1.out]; rintro e w10 ⟨rfl, hw⟩; obtain rfl := hw.symm; clear hw))
      go_wp2_with (first
        | (go_at_call 34; refine (fx_on H9.out (by decide) ((Below.refl _ _).alloc (Nat.le_refl _) _) _ _ _ [1099511627776] (keep_litF _ (by decide))).mono ?_; rintro e w11 ⟨rfl, h⟩; have H11 := Lib.hid h; clear h)
        | (go_at_call 19; refine (al_files H11.out.al).mono ?_; rw [HF2.out]; rintro e w12 ⟨v12, rfl, hv, hb⟩; obtain ⟨M12, A12, q12, rfl⟩ : ∃ M A q, v12 = .slice A M q := (by obtain ⟨A_, q_, e_⟩ := Kd.S_slice hv; exact ⟨_, A_, q_, e_⟩); have H12 := Lib.hid (H11.out.below hb); have HV12 := Lib.hid hv; obtain rfl : M = M12 := (by rw [(Kd.S_reads' H12.out.row).1, (Kd.S_reads' hv).1]); clear hv hb)
        | (go_at_call 22; refine (alikeF_any A12 A4 M q12 q4 G _ (by have h := Kd.S_reads' HV12.out; rw [h.1]; exact h.2.2) (Kd.S_reads' HV12.out).2.1 (by have h := Kd.S_reads' H12.out.row; rw [h.1]; exact h.2.2) (Kd.S_reads' H12.out.row).2.1 HGK.out.1 HGK.out.2).mono ?_; rintro e w13 ⟨rfl, hb⟩; have H13 := Lib.hid (H12.out.below hb); clear hb)
        | (go_at_call 39; refine (al_power H13.out.al).mono ?_; rw [HOFF2.out]; rintro e w14 ⟨rfl, hw⟩; obtain rfl := hw.symm; clear hw)
        | (go_at_call 11; refine (al_steps H13.out.al).mono ?_; rw [HST2.out]; rintro e w15 ⟨rfl, hw⟩; obtain rfl := hw.symm; clear hw))
      go_ret
      exact ⟨rfl, HFIN.out _ H13.out.bl⟩
    by_cases hk3 : kind = 3
    · subst hk3
      obtain ⟨K1, hK1⟩ : ∃ K1, K1 = ({ planD K [⟨1, 3, 0⟩] with steps := 1, off := decide ((3 : Int) = 3) } : Dk) := ⟨_, rfl⟩
      have HONE : Hid (stepO kd nm.data.toList n b (planD K [⟨1, 3, 0⟩]) = (K1, 180)) := by show _ = _; rw [fails_one HFR.out kd nm.data.toList n b 3 (by decide), hK1]; rfl
      have HST1 : Hid (K1.steps = 1) := by show _ = _; rw [hK1]
      have HOFF : Hid (K1.off = true) := by show _ = _; rw [hK1]; rfl
      have HF1 : Hid (filesD (·.seen) K1 = G) := by show _ = _; rw [hK1, HG.out]; rfl
      have HF2 : Hid (filesD (·.seen) (onD [1099511627776] K1) = G) := by show _ = _; rw [HG.out]; exact fails_on HFR.out (by rw [hK1]; rfl) _
      have HST2 : Hid ((onD [1099511627776] K1).steps = 1) := by show K1.steps = 1; exact HST1.out
      have HOFF2 : Hid ((onD [1099511627776] K1).off = false) := rfl
      clear hK1
      go_upto_region 12 with (go_at_call 9; refine (fx_plan H4.out ((Below.refl _ _).alloc (Nat.le_refl _) _) (some ⟨w4.heap.size, 0, none⟩) 1 1 [⟨1, 3, 0⟩] (fat1_C 1 3 0 (heap_alloc_new _ _)) (by decide)).mono ?_; rintro e w5 ⟨rfl, h⟩; have H5 := Lib.hid h; clear h)
      have hw5 := Nat.lt_of_lt_of_le hbl H5.out.bl.size
      have y0 := (H5.out.bl.cell (p := ⟨w.heap.size, 0, none⟩) hbl).trans ((blk_cell HBX.out 0).trans rfl)
      have y1 := (H5.out.bl.cell (p := ⟨w.heap.size, 1, none⟩) hbl).trans ((blk_cell HBX.out 1).trans rfl)
      have y2 := (H5.out.bl.cell (p := ⟨w.heap.size, 2, none⟩) hbl).trans ((blk_cell HBX.out 2).trans rfl)
      have y3 := (H5.out.bl.cell (p := ⟨w.heap.size, 3, none⟩) hbl).trans ((blk_cell HBX.out 3).trans rfl)
      have y4 := (H5.out.bl.cell (p := ⟨w.heap.size, 4, none⟩) hbl).trans ((blk_cell HBX.out 4).trans rfl)
      have y5 := (H5.out.bl.cell (p := ⟨w.heap.size, 5, none⟩) hbl).trans ((blk_cell HBX.out 5).trans rfl)
      have y6 := (H5.out.bl.cell (p := ⟨w.heap.size, 6, none⟩) hbl).trans ((blk_cell HBX.out 6).trans rfl)
      go_upto_region 15 with (first
        | (go_at_call 38; refine (fx_lstep H5.out kd n m nm A A5 A6 p c n5 c5 n6 c6 b (by decide) HS.out HCW.out hpc HB.out hp).mono ?_; rw [HONE.out]; rintro e w6 ⟨rfl, h⟩; have H6 : Hid (Fx W0 w6 d K1 1 (.slice A4 M q4) G) := h; clear h)
        | (go_at_call 39; refine (al_power H6.out.al).mono ?_; rw [HOFF.out]; rintro e w7 ⟨rfl, hw⟩; obtain rfl := hw.symm; clear hw))
      clear y0 y1 y2 y3 y4 y5 y6 hw5
      go_upto_region 17 with (first
        | (go_at_call 19; refine (al_files H6.out.al).mono ?_; rw [HF1.out]; rintro e w8 ⟨v8, rfl, hv, hb⟩; obtain ⟨M8, A8, q8, rfl⟩ : ∃ M A q, v8 = .slice A M q := (by obtain ⟨A_, q_, e_⟩ := Kd.S_slice hv; exact ⟨_, A_, q_, e_⟩); have H8 := Lib.hid (H6.out.below hb); have HV8 := Lib.hid hv; obtain rfl : M = M8 := (by rw [(Kd.S_reads' H8.out.row).1, (Kd.S_reads' hv).1]); clear hv hb)
        | (go_at_call 22; refine (alikeF_any A8 A4 M q8 q4 G _ (by have h := Kd.S_reads' HV8.out; rw [h.1]; exact h.2.2) (Kd.S_reads' HV8.out).2.1 (by have h := Kd.S_reads' H8.out.row; rw [h.1]; exact h.2.2) (Kd.S_reads' H8.out.row).2.1 HGK.out.1 HGK.out.2).mono ?_; rintro e w9 ⟨rfl, hb⟩; have H9 := Lib.hid (H8.out.below hb); clear hb)
        | (go_at_call 11; refine (al_steps H9.out.al).mono ?_; rw [HST1.out]; rintro e w10 ⟨rfl, hw⟩; obtain rfl := hw.symm; clear hw))
      go_wp2_with (first
        | (go_at_call 34; refine (fx_on H9.out (by decide) ((Below.refl _ _).alloc (Nat.le_refl _) _) _ _ _ [1099511627776] (keep_litF _ (by decide))).mono ?_; rintro e w11 ⟨rfl, h⟩; have H11 := Lib.hid h; clear h)
        | (go_at_call 19; refine (al_files H11.out.al).mono ?_; rw [HF2.out]; rintro e w12 ⟨v12, rfl, hv, hb⟩; obtain ⟨M12, A12, q12, rfl⟩ : ∃ M A q, v12 = .slice A M q := (by obtain ⟨A_, q_, e_⟩ := Kd.S_slice hv; exact ⟨_, A_, q_, e_⟩); have H12 := Lib.hid (H11.out.below hb); have HV12 := Lib.hid hv; obtain rfl : M = M12 := (by rw [(Kd.S_reads' H12.out.row).1, (Kd.S_reads' hv).1]); clear hv hb)
        | (go_at_call 22; refine (alikeF_any A12 A4 M q12 q4 G _ (by have h := Kd.S_reads' HV12.out; rw [h.1]; exact h.2.2) (Kd.S_reads' HV12.out).2.1 (by have h := Kd.S_reads' H12.out.row; rw [h.1]; exact h.2.2) (Kd.S_reads' H12.out.row).2.1 HGK.out.1 HGK.out.2).mono ?_; rintro e w13 ⟨rfl, hb⟩; have H13 := Lib.hid (H12.out.below hb); clear hb)
        | (go_at_call 39; refine (al_power H13.out.al).mono ?_; rw [HOFF2.out]; rintro e w14 ⟨rfl, hw⟩; obtain rfl := hw.symm; clear hw)
        | (go_at_call 11; refine (al_steps H13.out.al).mono ?_; rw [HST2.out]; rintro e w15 ⟨rfl, hw⟩; obtain rfl := hw.symm; clear hw))
      go_ret
      exact ⟨rfl, HFIN.out _ H13.out.bl⟩
    have k1f : ((kind : Int) == 1) = false := by rw [beq_eq_false_iff_ne]; exact hk1
    have k3f : ((kind : Int) == 3) = false := by rw [beq_eq_false_iff_ne]; exact hk3
    have HOT := Lib.hid (fails_other HFR.out kd nm n b (·.seen))
    obtain ⟨x, hx⟩ : ∃ x, x = stepO kd nm.data.toList n b K := ⟨_, rfl⟩
    obtain ⟨K1, ec⟩ := x
    have HX : Hid (stepO kd nm.data.toList n b K = (K1, ec)) := hx.symm
    have hx2 := HOT.out
    rw [HX.out, ← HG.out] at hx2
    have HOT1 : Hid (ec ≠ 0 → filesD (·.seen) K1 = G) := hx2.1
    have HOT2 : Hid (othersL nm (filesD (·.seen) K1) = othersL nm G) := hx2.2
    have HOG : Hid ((othersL nm G).length ≤ 3518437208882 ∧ ∀ f ∈ othersL nm G, f.f1.length ≤ big) := ⟨Nat.le_trans (List.length_filter_le _ _) HGK.out.1, fun f hf => HGK.out.2 f (List.mem_filter.1 hf).1⟩
    clear hx hx2 HOT
    have hw4 := Nat.lt_of_lt_of_le hbl H4.out.bl.size
    have y0 := (H4.out.bl.cell (p := ⟨w.heap.size, 0, none⟩) hbl).trans ((blk_cell HBX.out 0).trans rfl)
    have y1 := (H4.out.bl.cell (p := ⟨w.heap.size, 1, none⟩) hbl).trans ((blk_cell HBX.out 1).trans rfl)
    have y2 := (H4.out.bl.cell (p := ⟨w.heap.size, 2, none⟩) hbl).trans ((blk_cell HBX.out 2).trans rfl)
    have y3 := (H4.out.bl.cell (p := ⟨w.heap.size, 3, none⟩) hbl).trans ((blk_cell HBX.out 3).trans rfl)
    have y4 := (H4.out.bl.cell (p := ⟨w.heap.size, 4, none⟩) hbl).trans ((blk_cell HBX.out 4).trans rfl)
    have y5 := (H4.out.bl.cell (p := ⟨w.heap.size, 5, none⟩) hbl).trans ((blk_cell HBX.out 5).trans rfl)
    have y6 := (H4.out.bl.cell (p := ⟨w.heap.size, 6, none⟩) hbl).trans ((blk_cell HBX.out 6).trans rfl)
    go_upto_region 20 with (go_at_call 38; refine (fx_lstep H4.out kd n m nm A A5 A6 p c n5 c5 n6 c6 b (by decide) HS.out HCW.out hpc HB.out hp).mono ?_; rw [HX.out]; rintro e w6 ⟨rfl, h⟩; have H6 : Hid (Fx W0 w6 d K1 1 (.slice A4 M q4) G) := h; clear h)
    clear y0 y1 y2 y3 y4 y5 y6 hw4
    obtain ⟨G8, hG8⟩ : ∃ G8, G8 = filesD (·.seen) K1 := ⟨_, rfl⟩
    have HG8 := Lib.hid hG8
    have HGL : Hid (G8.length ≤ 3518437208882) := by show _ ≤ _; rw [hG8]; exact (filesD_ok H6.out.al.okk).1
    rw [← hG8] at HOT1 HOT2
    clear hG8
    go_upto_region 21 with (go_at_call 19; refine (al_files H6.out.al).mono ?_; rw [← HG8.out]; rintro e w8 ⟨v8, rfl, hv, hb⟩; obtain ⟨M8, A8, q8, rfl⟩ : ∃ M A q, v8 = .slice A M q := (by obtain ⟨A_, q_, e_⟩ := Kd.S_slice hv; exact ⟨_, A_, q_, e_⟩); have H8 := Lib.hid (H6.out.below hb); have HV8 : Hid (RF w8 0 (fun _ => True) (.slice A8 M8 q8) G8) := Kd.S_mono hv (fun _ _ => trivial); clear hv hb)
    by_cases hec : ec = 0
    · subst hec
      have hw8 := Nat.lt_of_lt_of_le hbl H8.out.bl.size
      have y1 := (H8.out.bl.cell (p := ⟨w.heap.size, 1, none⟩) hbl).trans ((blk_cell HBX.out 1).trans rfl)
      go_upto_region 23 with fail
      have tok1 : True := trivial
      go_region_law (first
        | (go_simp; go_at_call 40; have _t := tok1; refine (othersF_any A8 M8 q8 G8 nm _ (fun _ => True) 0 (Kd.S_below HV8.out (below_drew (Below.refl _ _))) HGL.out).mono ?_; rintro e w9 ⟨A9, m9, q9, rfl, hc, hq, hb⟩; have HB9 : Hid (Below w8.heap.size w8 w9) := (below_drew (Below.refl _ _)).trans hb; have HC9 := Lib.hid (HOT2.out ▸ hc); have HQ9 := Lib.hid hq; have H9 := Lib.hid (H8.out.below HB9.out); have hw9 := Nat.lt_of_lt_of_le hw8 HB9.out.size; have z1 := (HB9.out.cell (p := ⟨w.heap.size, 1, none⟩) hw8).trans y1; clear hc hq hb tok1 _t)
        | (go_simp; go_at_call 40; refine (othersF_any A4 M q4 G nm _ (fun _ => True) 0 H9.out.row HGK.out.1).mono ?_; rintro e w10 ⟨A10, m10, q10, rfl, hc, hq, hb⟩; have HC10 := Lib.hid hc; have HQ10 := Lib.hid hq; have HB10 := Lib.hid hb; have H10 := Lib.hid (H9.out.below hb); have hw10 := Nat.lt_of_lt_of_le hw9 hb.size; have u1 := (hb.cell (p := ⟨w.heap.size, 1, none⟩) hw9).trans z1; obtain rfl : m9 = m10 := (by rw [← Kd.C_len HC9.out, ← Kd.C_len hc]); clear hc hq hb)
        | (go_simp; go_at_call 22; refine (alikeF_any A9 A10 m9 q9 q10 (othersL nm G) _ (Kd.C_below HC9.out HB10.out) HQ9.out HC10.out HQ10.out HOG.out.1 HOG.out.2).mono ?_; rintro e w11 ⟨rfl, hb⟩; have H11 := Lib.hid (H10.out.below hb); clear hb))
      all_goals
        go_wp2_with fail
        go_ret
        exact ⟨rfl, HFIN.out _ H11.out.bl⟩
    · have HGG : Hid (G8 = G) := HOT1.out hec
      rw [HGG.out] at HV8
      obtain rfl : M = M8 := (by rw [(Kd.S_reads' H8.out.row).1, (Kd.S_reads' HV8.out).1])
      go_wp2_with (go_at_call 22; refine (alikeF_any A8 A4 M q8 q4 G _ (by have h := Kd.S_reads' HV8.out; rw [h.1]; exact h.2.2) (Kd.S_reads' HV8.out).2.1 (by have h := Kd.S_reads' H8.out.row; rw [h.1]; exact h.2.2) (Kd.S_reads' H8.out.row).2.1 HGK.out.1 HGK.out.2).mono ?_; rintro e w9 ⟨rfl, hb⟩; have H9 := Lib.hid (H8.out.below hb); clear hb)
      go_ret
      exact ⟨rfl, HFIN.out _ H9.out.bl⟩
  · clear hev
    have h1 : (ev != 0) = true := by simpa using h0
    go_enter Try.func6, Try.ntmps6
    go_wp2_with (first
      | (go_at_call 7; refine (HAL.out _).mono ?_; rintro e w1 ⟨rfl, hb⟩; have HB1 : Hid (Below w.heap.size w w1) := HB0.out.trans (hb.mono HB0.out.size); clear hb)
      | (go_at_call 12; refine (twinF_any A0 n0 c0 fs _ (Kd.C_below HC0.out HB1.out) hc0 HL.out HFL.out).mono ?_; rintro e w2 ⟨A2, q2, rfl, hr, hb⟩; have HR2 := Lib.hid hr; have HB2 : Hid (Below w.heap.size w w2) := HB1.out.trans (hb.mono HB1.out.size); clear hr hb)
      | (go_at_call 13; refine (loadF_bad HR2.out HL.out HF.out HEV.out h0).mono ?_; rintro e w3 ⟨rfl, hb⟩; have HB3 : Hid (Below w.heap.size w w3) := HB2.out.trans (hb.mono HB2.out.size); clear hb)
      | (go_at_call 14; refine (refLoad_any A0 n0 c0 fs _ (Kd.C_below HC0.out HB3.out) hc0 (by have := HL.out; omega) HFL.out).mono ?_; rw [HEV.out]; rintro e w4 ⟨B1, m1, d1, i1, B2, m2, d2, i2, o1, rfl, hb⟩; have HB4 : Hid (Below w.heap.size w w4) := HB3.out.trans (hb.mono HB3.out.size); clear hb))
    go_ret
    refine ⟨rfl, ?_⟩
    repeat (first | exact HB4.out | refine below_setx ?_ _ _ HB4.out.size | refine Below.alloc ?_ HB4.out.size _)
end Go.Proofs.Ytkhopknpadncdaa
