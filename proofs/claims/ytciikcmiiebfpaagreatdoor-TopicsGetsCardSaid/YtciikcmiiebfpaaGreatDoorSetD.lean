/- SetS, SetD as one text (a claim holds at most 60 files). -/
import Derived.Test.YtciikcmiiebfpaaGreatDoorBatB

/- SetS -/
section
/- set.Split of one whole batch; set.mixed of one; cursor.Join of one. -/
namespace Go.Proofs.YtciikcmiiebfpaaGreatDoor
open Go Go.RowKit Go.Proofs.YtciikcmiiebfpaaGreatDoorW.PrintWords Go.Proofs.YtciikcmiiebfpaaGreatDoor.PTopicsGets Go.Proofs.YtciikcmiiebfpaaGreatDoorW.PrintMore
set_option linter.unusedVariables false
set_option linter.unusedSimpArgs false

theorem infoSB : (Tryz.prog.info? 51).map (fun i => (i.zero, i.size, i.bytes)) = some (some (.slice none 0 0), 1, 24) := by kernel_rfl
/-- A row of one part: its bytes are l; all of it from block B on. -/
structure Part (w : World) (B : Nat) (v : Value) (P : Option Addr) (n pc : Nat) (l : Bs) : Prop where
  own : Ix.Owns w B 51 1 v 1 [.slice P n pc]
  row : (Kd.int .u8).R 5 w 0 (fun i => B ≤ i) (.slice P n pc) l
  len : l.length = n
  cap : n ≤ pc
theorem Part.below {w w' : World} {B : Nat} {v : Value} {P : Option Addr} {n pc : Nat} {l : Bs} (h : Part w B v P n pc l) (hb : Below w.heap.size w w') : Part w' B v P n pc l :=
  ⟨Owns_below h.own hb, Kd.R_step h.row (fun b _ hl => hb.block b hl), h.len, h.cap⟩
theorem Part.CB {w : World} {B : Nat} {v : Value} {P : Option Addr} {n pc : Nat} {l : Bs} (h : Part w B v P n pc l) : CB w P n l := by
  obtain ⟨A2, c2, e, _, hC⟩ := Kd.R_reads h.row
  injection e with e1 e2 e3
  subst e1
  rw [h.len] at hC
  exact hC

set_option maxHeartbeats 8000000 in
set_option maxRecDepth 100000 in
theorem split_ok {w : World} {A : Option Addr} {n c : Nat} {l : Bs} (hb : Byt l) (hl : l.length = n) (hn : n ≤ c) (h1 : 1 ≤ n) (hs : n ≤ 36000) (HB : CB w A n l) (hm : measure_ l 0 = ((n : Int), 0)) :
    Calls Tryz.prog 62 #[.slice A n c] w fun r w' => Below w.heap.size w w' ∧ ∃ A' c' P pc, r = .returned (.tuple #[.slice A' 1 c', .int .i64 0]) ∧ Part w' w.heap.size (.slice A' 1 c') P n pc l := by
  obtain ⟨A5, c5, hc5, hcut, hM⟩ := piece_cut (A := A) hl hn (by omega) 0 (n : Int) n (by decide) (by omega) (by omega)
  have hM2 := measure_any A n c l hb hn hl (by omega) 0 w HB
  rw [hm] at hM2
  have hpl : (l.drop (0 : Int).toNat).take n = l := by rw [show (0 : Int).toNat = 0 from rfl, List.drop_zero, ← hl, List.take_length]
  rw [hpl] at hM
  have HME := Lib.hid hM2
  have HCL := Lib.hid (fun (W : World) (hW : Below w.heap.size w W) => clone_bytes A5 n c5 l W (hM W (HB.below hW)) (by omega))
  have HL := Lib.hid hl
  have hne : ¬ (n : Int) = 0 := by omega
  clear hb hl HB hm hM hM2 hpl
  go_enter Tryz.func62, Tryz.ntmps62
  go_wp2_with fail
  go_loopw [4, 5] (fun v4 v5 wr => Hid (Below w.heap.size w wr) ∧ ((v4 = .slice none 0 0 ∧ v5 = .int .i64 0 ∧ wr = w) ∨ (∃ (A' : Option Addr) (c' : Nat) (P : Option Addr) (pc : Nat), v4 = .slice A' 1 c' ∧ v5 = .int .i64 (n : Int) ∧ Hid (Part wr w.heap.size (.slice A' 1 c') P n pc l)))) (fun _ v5 _ => n - (intOf v5).toNat)
  case atStart => exact ⟨Below.refl _ _, Or.inl ⟨rfl, rfl, rfl⟩⟩
  case round =>
    obtain ⟨HB, hrel⟩ := hrel
    rcases hrel with ⟨rfl, rfl, hwr⟩ | ⟨A', c', P, pc, rfl, rfl, HP⟩
    · subst hwr
      go_wp2_with fail
      refine HME.out.mono ?_
      rintro r w1 ⟨hb1, rfl⟩
      have HB1 := Lib.hid hb1
      clear hb1 HME
      go_wp2_with fail
      refine (HCL.out w1 HB1.out).mono ?_
      rintro r w2 ⟨v, rfl, hr, hb2⟩
      obtain ⟨P, pc, rfl, hpc, _⟩ := Kd.R_reads hr
      rw [HL.out] at hpc hr ⊢
      have HB2 := Lib.hid (HB1.out.trans (hb2.mono HB1.out.size))
      have hA : Below w2.heap.size w2 (w2.alloc (.cells #[.slice P n pc] 51)) := (Below.refl _ _).alloc (Nat.le_refl _) _
      have HBX := Lib.hid (blk_new w2 (.cells #[.slice P n pc] 51))
      have HB3 := Lib.hid (HB2.out.trans (hA.mono HB2.out.size))
      have HR3 := Lib.hid (Kd.R_mono (Kd.R_step hr (fun b _ hl => hA.block b hl)) (fun i hi => Nat.le_trans HB1.out.size hi))
      have HSZ := Lib.hid HB3.out.size
      clear hr hb2 hA HB1 HCL
      go_wp2_with (at_builtin; refine wpList_push rfl _ _ 144 51 1 24 (.slice none 0 0) rfl Tryz.underlying144 infoSB rfl (by decide) _ wr.heap.size w2.heap.size (.slice none 0 0) 0 [] [.slice P n pc] rfl rfl HBX.out rfl rfl (Ix.Owns.nil _ _ _ _) (by simp only [maxLen]; omega) (by omega) HSZ.out ?_; intro v8 w8 ho ht hs; obtain ⟨A8, c8, rfl⟩ := ho.slice; have HO8 := Lib.hid ho; have HT8 := Lib.hid ht; clear ho ht hs)
      have hb8 : Below (w2.alloc (.cells #[.slice P n pc] 51)).heap.size (w2.alloc (.cells #[.slice P n pc] 51)) w8 := HT8.out.below (Nat.le_refl _) (fun k hk => by cases hk)
      have HPn : Hid (Part w8 wr.heap.size (.slice A8 (0 + 1) c8) P n pc l) := ⟨HO8.out, Kd.R_step HR3.out (fun b _ hl => hb8.block b hl), HL.out, hpc⟩
      go_roundw
      case rel => exact ⟨HB3.out.trans (hb8.mono HB3.out.size), Or.inr ⟨A8, c8, P, pc, rfl, by go_num, HPn⟩⟩
      case measure => simp [intOf]; omega
    · go_wp2_with fail
      go_ret2
      exact ⟨HB.out, A', c', P, pc, rfl, HP.out⟩
theorem mixed_one (w : World) (A : Option Addr) (c : Nat) : Calls Tryz.prog 64 #[.slice A 1 c] w fun r w' => w' = w ∧ r = .returned (.int .i64 (-1)) := by
  go_enter Tryz.func64, Tryz.ntmps64
  go_wp2_with fail
  go_ret
  exact ⟨rfl, rfl⟩
end Go.Proofs.YtciikcmiiebfpaaGreatDoor
end

/- SetD -/
section
/- set.Decode, cursor.Join, set.Place of one plain batch. -/
namespace Go.Proofs.YtciikcmiiebfpaaGreatDoor
open Go Go.RowKit Go.Proofs.YtciikcmiiebfpaaGreatDoorW.PrintWords Go.Proofs.YtciikcmiiebfpaaGreatDoor.PTopicsGets Go.Proofs.YtciikcmiiebfpaaGreatDoorW.PrintMore
set_option linter.unusedVariables false
set_option linter.unusedSimpArgs false

theorem infoBat : (Tryz.prog.info? 95).map (fun i => (i.zero, i.size, i.bytes)) = some (some (.agg #[.int .i64 0, .int .i32 0, .int .i64 0, .int .i16 0, .int .i32 0, .slice none 0 0]), 6, 56) := by kernel_rfl
/-- A row of one batch with records of these times; all of it from block B on. -/
structure OneB (w : World) (B : Nat) (v : Value) (v0 v12 v43 v51 v53 : Int) (R : Option Addr) (rc : Nat) (ts : List Int) : Prop where
  own : Ix.Owns w B 95 6 v 1 [.int .i64 v0, .int .i32 v12, .int .i64 v43, .int .i16 v51, .int .i32 v53, .slice R ts.length rc]
  recs : ∃ rs, Recs w B (.slice R ts.length rc) rs ∧ rs.map (·.t) = ts
theorem OneB.below {w w' : World} {B : Nat} {v : Value} {v0 v12 v43 v51 v53 : Int} {R : Option Addr} {rc : Nat} {ts : List Int} (h : OneB w B v v0 v12 v43 v51 v53 R rc ts) (hb : Below w.heap.size w w') : OneB w' B v v0 v12 v43 v51 v53 R rc ts :=
  ⟨Owns_below h.own hb, by obtain ⟨rs, h1, h2⟩ := h.recs; exact ⟨rs, Owns_below h1 hb, h2⟩⟩

set_option maxHeartbeats 8000000 in
set_option maxRecDepth 100000 in
theorem setDec_ok {w : World} {A : Option Addr} {n c : Nat} {l : Bs} {v0 v12 v17 v27 v35 v43 v51 v53 : Int} {ts : List Int} (hl : l.length = n) (hn : n ≤ c) (hs : n ≤ 36000) (HB : CB w A n l) (HT : Tab w) (h : BatOk l v0 v12 v17 v27 v35 v43 v51 v53 ts) :
    Calls Tryz.prog 26 #[.slice A n c] w fun r w' => Below w.heap.size w w' ∧ ∃ A' c' R rc, r = .returned (.tuple #[.slice A' 1 c', .int .i64 0, .int .i64 0]) ∧ OneB w' w.heap.size (.slice A' 1 c') v0 v12 v43 v51 v53 R rc ts := by
  have h61 := h.head.len
  have HSP := Lib.hid (split_ok h.head.byt hl hn (by omega) hs HB (by have := h.head.ms; rw [hl] at this; exact this))
  have HTB := Lib.hid (fun (W : World) (hb : Below w.heap.size w W) => HT.below hb)
  have HH := Lib.hid h
  have HL := Lib.hid hl
  clear h HB HT h61 hl
  go_enter Tryz.func26, Tryz.ntmps26
  go_wp2_with fail
  refine HSP.out.mono ?_
  rintro r w1 ⟨hb1, A1, c1, P, pc, rfl, hp⟩
  have HB1 := Lib.hid hb1
  have HP := Lib.hid hp
  obtain ⟨gp, cp, e, _, hgl, _, _, hx⟩ := hp.own.form (by decide)
  injection e with e1 e2 e3
  subst e1
  have HX : Hid (w1.cell? ⟨gp, 0, none⟩ = some (.slice P n pc)) := hx 0 _ rfl
  have HGL := Lib.hid hgl
  clear hb1 hp HSP hx e2 e3 hgl
  go_wp2_with fail
  go_loopw [7, 23] (fun v7 v23 wr => Hid (Below w.heap.size w wr) ∧ Hid (Below w1.heap.size w1 wr) ∧ ((v7 = .slice none 0 0 ∧ v23 = .int .i64 0 ∧ wr = w1) ∨ (∃ (A' : Option Addr) (c' : Nat) (R : Option Addr) (rc : Nat), v7 = .slice A' 1 c' ∧ v23 = .int .i64 1 ∧ Hid (OneB wr w.heap.size (.slice A' 1 c') v0 v12 v43 v51 v53 R rc ts)))) (fun _ v23 _ => 1 - (intOf v23).toNat)
  case atStart => exact ⟨HB1.out, Below.refl _ _, Or.inl ⟨rfl, rfl, rfl⟩⟩
  case round =>
    obtain ⟨HB, HBo, hrel⟩ := hrel
    rcases hrel with ⟨rfl, rfl, hwr⟩ | ⟨A', c', R, rc, rfl, rfl, HO⟩
    · subst hwr
      have p0 := HX.out
      go_wp2_with fail
      refine (dec_ok HL.out HP.out.cap (by omega) HP.out.CB (HTB.out _ HB.out) HH.out).mono ?_
      rintro r w2 ⟨hb2, R, rc, rs, rfl, hrs, hts⟩
      have hA : Below w2.heap.size w2 (w2.alloc (.cells #[.int .i64 v0, .int .i32 v12, .int .i64 v43, .int .i16 v51, .int .i32 v53, .slice R ts.length rc] 95)) := (Below.refl _ _).alloc (Nat.le_refl _) _
      have hA2 : Below (w2.alloc (.cells #[.int .i64 v0, .int .i32 v12, .int .i64 v43, .int .i16 v51, .int .i32 v53, .slice R ts.length rc] 95)).heap.size (w2.alloc (.cells #[.int .i64 v0, .int .i32 v12, .int .i64 v43, .int .i16 v51, .int .i32 v53, .slice R ts.length rc] 95)) ((w2.alloc (.cells #[.int .i64 v0, .int .i32 v12, .int .i64 v43, .int .i16 v51, .int .i32 v53, .slice R ts.length rc] 95)).alloc (.cells #[.int .i64 v0, .int .i32 v12, .int .i64 v43, .int .i16 v51, .int .i32 v53, .slice R ts.length rc] 95)) := (Below.refl _ _).alloc (Nat.le_refl _) _
      have hbx := blk_new (w2.alloc (.cells #[.int .i64 v0, .int .i32 v12, .int .i64 v43, .int .i16 v51, .int .i32 v53, .slice R ts.length rc] 95)) (.cells #[.int .i64 v0, .int .i32 v12, .int .i64 v43, .int .i16 v51, .int .i32 v53, .slice R ts.length rc] 95)
      rw [World.size_alloc] at hbx
      have HBX := Lib.hid hbx
      have hbo3 : Below wr.heap.size wr _ := (hb2.trans (hA.mono hb2.size)).trans (hA2.mono (Nat.le_trans hb2.size hA.size))
      have HBo3 := Lib.hid hbo3
      have HB3 := Lib.hid (HB.out.trans (hbo3.mono HB.out.size))
      have HRS := Lib.hid ((Owns_below (Owns_below hrs hA) hA2).mono HB.out.size)
      have HTS := Lib.hid hts
      have HSZ := Lib.hid HB3.out.size
      clear hb2 hrs hts hA hA2 hbx hbo3
      go_wp2_with (at_builtin; refine wpList_push rfl _ _ 86 95 6 56 _ rfl Tryz.underlying86 infoBat rfl (by decide) _ w.heap.size (w2.heap.size + 1) (.slice none 0 0) 0 [] [.int .i64 v0, .int .i32 v12, .int .i64 v43, .int .i16 v51, .int .i32 v53, .slice R ts.length rc] rfl rfl HBX.out rfl rfl (Ix.Owns.nil _ _ _ _) (by simp only [maxLen]; omega) (by omega) HSZ.out ?_; intro v8 w8 ho ht hs; obtain ⟨A8, c8, rfl⟩ := ho.slice; have HO8 := Lib.hid ho; have HT8 := Lib.hid ht; clear ho ht hs)
      have hb8 := HT8.out.below (Nat.le_refl _) (fun k hk => by cases hk)
      have HOn : Hid (OneB w8 w.heap.size (.slice A8 (0 + 1) c8) v0 v12 v43 v51 v53 R rc ts) := ⟨HO8.out, rs, Owns_below HRS.out hb8, HTS.out⟩
      go_roundw
      case rel => exact ⟨HB3.out.trans (hb8.mono HB3.out.size), HBo3.out.trans (hb8.mono HBo3.out.size), Or.inr ⟨A8, c8, R, rc, rfl, rfl, HOn⟩⟩
      case measure => simp [intOf]
    · go_wp2_with fail
      refine (mixed_one wr A' c').mono ?_
      rintro r w5 ⟨rfl, rfl⟩
      go_wp2_with fail
      go_ret3
      exact ⟨HB.out, A', c', R, rc, rfl, HO.out⟩

set_option maxHeartbeats 8000000 in
set_option maxRecDepth 100000 in
theorem join_one {w : World} {B : Nat} {A : Option Addr} {c : Nat} {P : Option Addr} {n pc : Nat} {l : Bs} (h : Part w B (.slice A 1 c) P n pc l) (hs : n ≤ 100000) :
    Calls Tryz.prog 67 #[.slice A 1 c] w fun r w' => Below w.heap.size w w' ∧ ∃ A' c', n ≤ c' ∧ r = .returned (.slice A' n c') ∧ Ix.Owns w' w.heap.size 5 1 (.slice A' n c') n (u8s l) := by
  obtain ⟨gp, cp, e, _, hgl, _, _, hx⟩ := h.own.form (by decide)
  injection e with e1 e2 e3
  subst e1
  have HX : Hid (w.cell? ⟨gp, 0, none⟩ = some (.slice P n pc)) := hx 0 _ rfl
  have HP := Lib.hid h
  clear h hx e2 e3 hgl
  go_enter Tryz.func67, Tryz.ntmps67
  go_wp2_with fail
  have hA : Below w.heap.size w (w.alloc (.cells #[] 5)) := (Below.refl _ _).alloc (Nat.le_refl _) _
  have hown : Ix.Owns (w.alloc (.cells #[] 5)) w.heap.size 5 1 (.slice (some ⟨w.heap.size, 0, none⟩) 0 0) 0 [] :=
    ⟨rfl, .inr ⟨w.heap.size, 0, #[], rfl, Nat.le_refl _, blk_new _ _, Nat.le_refl _, by decide, by decide, rfl⟩⟩
  have HA := Lib.hid hA
  have HO := Lib.hid hown
  have HRD := Lib.hid (CB_rd (HP.out.CB.below hA))
  have hp0 : (w.alloc (.cells #[] 5)).cell? ⟨gp, 0, none⟩ = some (.slice P n pc) := (hA.cell (p := ⟨gp, 0, none⟩) (World.block_lt_of_cell? w _ HX.out)).trans HX.out
  have HP0 := Lib.hid hp0
  have HSZ := Lib.hid hA.size
  clear hA hown hp0 HX HP
  generalize w.alloc (.cells #[] 5) = W0 at *
  obtain ⟨i0, hi0, hz0, hz1, hz2⟩ := info_parts info5
  go_loopw [3, 9] (fun v3 v9 wr => Hid (Below w.heap.size w wr) ∧ ((v3 = .slice (some ⟨w.heap.size, 0, none⟩) 0 0 ∧ v9 = .int .i64 0 ∧ wr = W0) ∨ (∃ (A' : Option Addr) (c' : Nat), v3 = .slice A' n c' ∧ v9 = .int .i64 1 ∧ Hid (n ≤ c' ∧ Ix.Owns wr w.heap.size 5 1 (.slice A' n c') n (u8s l))))) (fun _ v9 _ => 1 - (intOf v9).toNat)
  case atStart => exact ⟨HA.out, Or.inl ⟨rfl, rfl, rfl⟩⟩
  case round =>
    obtain ⟨HB, hrel⟩ := hrel
    rcases hrel with ⟨rfl, rfl, hwr⟩ | ⟨A', c', rfl, rfl, HO2⟩
    · subst hwr
      have p0 := HP0.out
      go_wp2_with (at_builtin; refine Ix.wpList_app _ rfl _ _ 51 rfl w.heap.size 5 i0 _ 1 1 Tryz.underlying51 hi0 hz0 hz1 hz2 rfl (by decide) (.slice (some ⟨w.heap.size, 0, none⟩) 0 0) 0 [] rfl HO.out P n pc (u8s l) rfl HRD.out (u8s_cell _) (by simp only [maxLen]; omega) (by omega) HSZ.out ?_; intro v8 w8 ho hk hs; obtain ⟨A8, c8, rfl⟩ := ho.slice; have HO8 := Lib.hid ho; have HK8 := Lib.hid hk; clear ho hk hs)
      have ht : Tch (fun k => (Value.slice (some ⟨w.heap.size, 0, none⟩) 0 0).ownBlock = some k) wr w8 := ⟨HK8.out.os, HK8.out.tape, HK8.out.output, HK8.out.size, HK8.out.block⟩
      have hb8 := HB.out.trans (ht.below HB.out.size (fun k hk => (HO.out.lt k hk).1))
      have ho8 := HO8.out
      rw [Nat.zero_add, List.nil_append] at ho8
      have hnc : n ≤ c8 := by
        by_cases h0 : 0 < n
        · obtain ⟨_, cap, e, _, _, h1, _⟩ := ho8.form h0
          injection e with _ _ e3
          omega
        · omega
      have HOn : Hid (n ≤ c8 ∧ Ix.Owns w8 w.heap.size 5 1 (.slice A8 n c8) n (u8s l)) := ⟨hnc, ho8⟩
      clear ho8 hnc
      go_roundw
      case rel => exact ⟨hb8, Or.inr ⟨A8, c8, rfl, rfl, HOn⟩⟩
      case measure => simp [intOf]
    · go_wp2_with fail
      go_ret
      exact ⟨HB.out, A', c', HO2.out.1, rfl, HO2.out.2⟩
theorem Owns_CB {w : World} {B : Nat} {A : Option Addr} {n c : Nat} {l : Bs} (h : Ix.Owns w B 5 1 (.slice A n c) n (u8s l)) (hl : l.length = n) (hn : n ≤ 9223372036854775807) : CB w A n l := by
  refine Kd.C_of_reads (d := (0 : Int)) (h1 := fun _ => rfl) ⟨hl, hn, fun h0 => ?_⟩
  obtain ⟨g', cap, e, _, _, _, _, hx⟩ := h.form h0
  injection e with e1 e2 e3
  subst e1
  refine ⟨_, rfl, fun j hj => ?_⟩
  rw [Ix.add_zero']
  refine hx j _ ?_
  unfold u8s
  rw [List.getElem?_map, List.getD_eq_getElem?_getD, List.getElem?_eq_getElem (by rw [hl]; exact hj)]
  rfl

theorem Owns_put1 {w : World} {B g c : Nat} {e : TypeId} {x : Value} (h : Ix.Owns w B e 1 (.slice (some ⟨g, 0, none⟩) 1 c) 1 [x]) (y : Value) : Ix.Owns (w.setCell ⟨g, 0, none⟩ y) B e 1 (.slice (some ⟨g, 0, none⟩) 1 c) 1 [y] := by
  refine ⟨rfl, .inr ?_⟩
  rcases h.2 with ⟨_, h0⟩ | ⟨g', cap, cur, hv, hg, hh, hnc, hcm, hcs, ht⟩
  · cases h0
  · injection hv with e1 _ e3
    injection e1 with e1
    injection e1 with e1
    subst e1
    subst e3
    refine ⟨g, c, cur.setIfInBounds 0 y, rfl, hg, blk_put hh 0 y rfl, hnc, hcm, by simpa using hcs, ?_⟩
    have hsz : 0 < cur.size := by omega
    obtain ⟨l⟩ := cur
    cases l with
    | nil => exact absurd hsz (Nat.lt_irrefl 0)
    | cons a b => rfl

set_option maxHeartbeats 8000000 in
set_option maxRecDepth 100000 in
theorem place_ok {w : World} {A : Option Addr} {n c : Nat} {l : Bs} {v0 v12 v17 v27 v35 v43 v51 v53 : Int} {ts : List Int} (base epoch : Int) (hl : l.length = n) (hn : n ≤ c) (hs : n ≤ 36000) (HB : CB w A n l) (HT : Tab w) (h : BatOk l v0 v12 v17 v27 v35 v43 v51 v53 ts) (hbase : badBase base = false) :
    Calls Tryz.prog 28 #[.slice A n c, .int .i64 base, .int .i32 epoch] w fun r w' => Below w.heap.size w w' ∧ ∃ A' c', n ≤ c' ∧ r = .returned (.tuple #[.slice A' n c', .int .i64 (base + ts.length), .int .i64 0]) ∧ Ix.Owns w' w.heap.size 5 1 (.slice A' n c') n (u8s (rebBytes l base epoch)) := by
  have h61 := h.head.len
  have HSD := Lib.hid (setDec_ok hl hn hs HB HT h)
  have HSP := Lib.hid (fun (W : World) (hb : Below w.heap.size w W) => split_ok (w := W) h.head.byt hl hn (by omega) hs (HB.below hb) (by have := h.head.ms; rw [hl] at this; exact this))
  have HTB := Lib.hid (fun (W : World) (hb : Below w.heap.size w W) => HT.below hb)
  have HH := Lib.hid h
  have HL := Lib.hid hl
  have HRL : Hid ((rebBytes l base epoch).length = n) := by show _ = _; rw [rebBytes_len (by omega), hl]
  have HBB := Lib.hid hbase
  have HCN := Lib.hid h.head.cnt
  have hbr : 0 ≤ base ∧ base ≤ 4611686018427387648 := by unfold badBase at hbase; simp at hbase; omega
  clear h HB HT h61 hl hbase
  go_enter Tryz.func28, Tryz.ntmps28
  go_wp2_with fail
  refine HSD.out.mono ?_
  rintro r w1 ⟨hb1, A1, c1, R, rc, rfl, ho⟩
  have HB1 := Lib.hid hb1
  have HO1 := Lib.hid ho
  clear hb1 ho HSD
  go_wp2_with fail
  refine (HSP.out w1 HB1.out).mono ?_
  rintro r w2 ⟨hb2, A2, c2, P, pc, rfl, hp⟩
  have HB2 := Lib.hid (HB1.out.trans (hb2.mono HB1.out.size))
  have HO2 := Lib.hid (HO1.out.below hb2)
  have HP2 := Lib.hid hp
  have HS1 := Lib.hid hb2.size
  obtain ⟨gp, cp, e, hgp, hgl, _, _, hx⟩ := hp.own.form (by decide)
  injection e with e1 e2 e3
  subst e1
  have HX : Hid (w2.cell? ⟨gp, 0, none⟩ = some (.slice P n pc)) := hx 0 _ rfl
  have HGP : Hid (w1.heap.size ≤ gp ∧ gp < w2.heap.size) := ⟨hgp, hgl⟩
  clear hb2 hp hx e2 e3 hgp hgl HSP HO1
  go_wp2_with fail
  obtain ⟨gb, cb, eb, _, hgbl, _, _, hxb⟩ := HO2.out.own.form (by decide)
  injection eb with eb1 eb2 eb3
  subst eb1
  have HXB : Hid (w2.cell? ⟨gb, 5, none⟩ = some (.slice R ts.length rc)) := hxb 5 _ rfl
  obtain ⟨curp, hcurp⟩ := HP2.out.own.block_type gp rfl
  have HCP := Lib.hid hcurp
  obtain ⟨curb, hcurb⟩ := HO2.out.own.block_type gb rfl
  have hgne : gb ≠ gp := blk_ne hcurb hcurp (by decide)
  have HGNE := Lib.hid hgne
  have HGBL := Lib.hid hgbl
  clear eb2 eb3 hxb hcurp hcurb hgne hgbl
  go_loopw [1, 11, 32] (fun v1 v11 v32 wr => Hid (Below w.heap.size w wr) ∧ v11 = .int .i64 0 ∧ ((v1 = .int .i64 base ∧ v32 = .int .i64 0 ∧ wr = w2) ∨ (∃ (A3 : Option Addr) (c3 : Nat), v1 = .int .i64 (base + ts.length) ∧ v32 = .int .i64 1 ∧ Hid (Part wr w1.heap.size (.slice (some ⟨gp, 0, none⟩) 1 c2) A3 n c3 (rebBytes l base epoch))))) (fun _ _ v32 _ => 1 - (intOf v32).toNat)
  case atStart => exact ⟨HB2.out, rfl, Or.inl ⟨rfl, rfl, rfl⟩⟩
  case round =>
    obtain ⟨HB, rfl, hrel⟩ := hrel
    rcases hrel with ⟨rfl, rfl, hwr⟩ | ⟨A3, c3, rfl, rfl, HP4⟩
    · subst hwr
      have p0 := HX.out
      have hcn := HCN.out
      go_wp2_with fail
      refine (rebase_ok base epoch HL.out HP2.out.cap hs HP2.out.CB (HTB.out _ HB.out) HH.out HBB.out).mono ?_
      rintro r w3 ⟨hb3, A3, c3, hc3, rfl, hr3⟩
      have hx3 := blk_below HCP.out hb3
      have f0 := blk_frozen hx3 0
      have q0 : w3.cell? ⟨gp, 0, none⟩ = some (.slice P n pc) := (hb3.cell (p := ⟨gp, 0, none⟩) HGP.out.2).trans p0
      have qb : (w3.setCell ⟨gp, 0, none⟩ (.slice A3 n c3)).cell? ⟨gb, 5, none⟩ = some (.slice R ts.length rc) :=
        ((Tch.set (S := fun k => k = gp) w3 ⟨gp, 0, none⟩ (.slice A3 n c3) rfl).cell (a := ⟨gb, 5, none⟩) (Nat.lt_of_lt_of_le HGBL.out hb3.size) HGNE.out).trans ((hb3.cell (p := ⟨gb, 5, none⟩) HGBL.out).trans HXB.out)
      have t9 := Tch.set (S := fun k => k = gp) w3 ⟨gp, 0, none⟩ (.slice A3 n c3) rfl
      have HBn := Lib.hid ((HB.out.trans (hb3.mono HB.out.size)).trans (t9.below (Nat.le_trans HB.out.size hb3.size) (fun k hk => by rw [hk]; exact Nat.le_trans HB1.out.size HGP.out.1)))
      have hgp2 := HGP.out.2
      have HPn : Hid (Part (w3.setCell ⟨gp, 0, none⟩ (.slice A3 n c3)) w1.heap.size (.slice (some ⟨gp, 0, none⟩) 1 c2) A3 n c3 (rebBytes l base epoch)) :=
        ⟨Owns_put1 (Owns_below HP2.out.own hb3) _, Kd.R_mono (Kd.R_step hr3 (fun b hb hl => t9.block b hl (fun e => by rw [e] at hb; exact absurd hgp2 (Nat.not_lt.2 hb)))) (fun i hi => Nat.le_trans HS1.out hi), HRL.out, hc3⟩
      clear hb3 hr3 hx3 t9 hgp2
      go_wp2_with fail
      go_roundw
      case rel => exact ⟨HBn.out, rfl, Or.inr ⟨A3, c3, by go_num, rfl, HPn⟩⟩
      case measure => simp [intOf]
    · go_wp2_with fail
      refine (join_one HP4.out (by omega)).mono ?_
      rintro r w5 ⟨hb5, A5, c5, hc5, rfl, ho5⟩
      have HB5 := Lib.hid (HB.out.trans (hb5.mono HB.out.size))
      have HO5 := Lib.hid (ho5.mono HB.out.size)
      clear hb5 ho5
      go_wp2_with fail
      go_ret3
      exact ⟨HB5.out, A5, c5, hc5, rfl, HO5.out⟩
end Go.Proofs.YtciikcmiiebfpaaGreatDoor
end
