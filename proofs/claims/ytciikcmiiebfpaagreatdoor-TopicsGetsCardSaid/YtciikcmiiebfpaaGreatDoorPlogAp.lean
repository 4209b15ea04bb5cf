/- PlogW, PlogAp as one text (a claim holds at most 60 files). -/
import Derived.Test.YtciikcmiiebfpaaGreatDoorPlogA

/- PlogW -/
section
/- plog: write. -/
namespace Go.Proofs.YtciikcmiiebfpaaGreatDoor
open Go Go.RowKit Go.Maps Go.Proofs.YtciikcmiiebfpaaGreatDoorW.PrintWords Go.Proofs.YtciikcmiiebfpaaGreatDoor.PTopicsGets Go.Proofs.YtciikcmiiebfpaaGreatDoorW.PrintMore
set_option linter.unusedVariables false
set_option linter.unusedSimpArgs false

set_option maxRecDepth 100000 in
set_option maxHeartbeats 4000000 in
theorem write_ok {w : World} {l d t N n c g : Nat} {S : Nat → Prop} {k : Dk} {dir nm : ByteArray} {sz : Int} {dead : Bool} {v : Value} {A : Option Addr} {b : List Int} (h : LogB w l d dir sz v t dead) (hnm : nm.size ≤ maxLen) (hD : Disk w d S k N) (hN : N < 900000000000) (hSl : ¬ S l) (hSlt : ∀ b, S b → b < w.heap.size)
    (hC : ∀ W, Tch S w W → (Kd.int .u8).C W A n b) (hb : Byt b) (hbl : n ≤ big) (hnc : n ≤ c)
    (hc1 : (stepD (appendD b nm.data.toList) (partD b nm.data.toList) k).2 = 0) (hc2 : (stepD (syncD nm.data.toList) (fun k _ => k) (stepD (appendD b nm.data.toList) (partD b nm.data.toList) k).1).2 = 0) :
    Calls Tryz.prog 31 #[.pointer (some ⟨l, 0, none⟩), .agg #[.pointer (some ⟨g, 0, none⟩), .string nm], .slice A n c] w fun r w' => r = .returned (.int .i64 0) ∧ CrP S d (N + 1) w (stepD (syncD nm.data.toList) (fun k _ => k) (stepD (appendD b nm.data.toList) (partD b nm.data.toList) k).1).1 w' := by
  have hll := blk_lt h
  obtain ⟨k1, hk1⟩ : ∃ k1, k1 = (stepD (appendD b nm.data.toList) (partD b nm.data.toList) k).1 := ⟨_, rfl⟩
  rw [← hk1] at hc2 ⊢
  have HZ0 : Hid ((w.alloc (.cells #[.pointer (some ⟨g, 0, none⟩), .string nm] 100)).heap[w.heap.size]? = some (.cells #[.pointer (some ⟨g, 0, none⟩), .string nm] 100 (0, 0))) := blk_new _ _
  have HB0 : Hid (Below w.heap.size w (w.alloc (.cells #[.pointer (some ⟨g, 0, none⟩), .string nm] 100))) := (Below.refl _ _).alloc (Nat.le_refl _) _
  have HLW : Hid (l < (w.alloc (.cells #[.pointer (some ⟨g, 0, none⟩), .string nm] 100)).heap.size) := Nat.lt_of_lt_of_le hll HB0.out.size
  have HLG := Lib.hid (h.below HB0.out)
  have HCA : Hid (Calls Tryz.prog 74 #[.pointer (some ⟨d, 0, none⟩), .string nm, .slice A n c] (w.alloc (.cells #[.pointer (some ⟨g, 0, none⟩), .string nm] 100)).drew (SPost S d (N + 1) (w.alloc (.cells #[.pointer (some ⟨g, 0, none⟩), .string nm] 100)).drew (stepD (appendD b nm.data.toList) (partD b nm.data.toList) k))) :=
    append_any _ d N S k nm A n c b (hD.below HB0.out.drew) (by omega) hnm (fun W hW => hC W ((Tch.of_below HB0.out).trans (tch_drew hW))) hb hbl hnc
  have HSY : Hid (∀ W S', Disk W d S' k1 (N + 1) → Calls Tryz.prog 75 #[.pointer (some ⟨d, 0, none⟩), .string nm] W.drew (SPost S' d (N + 1 + 1) W.drew (stepD (syncD nm.data.toList) (fun k _ => k) k1))) := fun W S' hW => sync_any _ d (N + 1) S' k1 nm (hW.below (Below.drew (Below.refl _ _))) (by omega) hnm
  have HK1 := Lib.hid hk1
  have HC1 := Lib.hid hc1
  have HC2 := Lib.hid hc2
  have HSL := Lib.hid hSl
  have HSLT := Lib.hid hSlt
  have HLL := Lib.hid hll
  clear h hnm hD hC hb hbl hc1 hc2 hk1 hSl hSlt hll
  go_enter Tryz.func31, Tryz.ntmps31
  go_upto_region 1 with fail
  have z1 := two_1 HZ0.out
  have c0 : (w.alloc (.cells #[.pointer (some ⟨g, 0, none⟩), .string nm] 100)).cell? ⟨l, 0, none⟩ = some (.pointer (some ⟨d, 0, none⟩)) := blk_cell HLG.out 0
  generalize w.alloc (.cells #[.pointer (some ⟨g, 0, none⟩), .string nm] 100) = W at *
  go_cut [7] from 8 to 15 (fun v wx => v = .int .i64 0 ∧ CrP S d N W k1 wx)
  case first =>
    go_region_with (go_at_call 74; refine HCA.out.mono ?_; rintro r w3 ⟨S', rfl, hD3, hT3, hS3⟩; rw [HC1.out]; rw [← HK1.out] at hD3)
    all_goals
      go_wp2_with fail
      go_meet
      exact ⟨rfl, S', hD3, tch_drew hT3, hS3⟩
  case rest =>
  obtain ⟨rfl, S', hD3, hT3, hS3⟩ := hcut
  rename World => w3
  have hLG3 : LogB w3 l d dir sz v t dead := (hT3.block l HLW.out HSL.out).trans HLG.out
  have hZ3 := (hT3.block w.heap.size (blk_lt HZ0.out) (fun h => by have := HSLT.out _ h; omega)).trans HZ0.out
  have z1 := two_1 hZ3
  have c0 : w3.cell? ⟨l, 0, none⟩ = some (.pointer (some ⟨d, 0, none⟩)) := blk_cell hLG3 0
  have HSY := Lib.hid (HSY.out w3 S' hD3)
  have HT3 := Lib.hid hT3
  have HS3 := Lib.hid hS3
  clear hD3 hT3 hS3 hLG3 hZ3
  go_upto_region 3 with fail
  go_cut [7] from 18 to 24 (fun v wx => v = .int .i64 0 ∧ CrP S' d (N + 1) w3 (stepD (syncD nm.data.toList) (fun k _ => k) k1).1 wx)
  case first =>
    go_region_with (go_at_call 75; refine HSY.out.mono ?_; rintro r w5 ⟨S5, rfl, hD5, hT5, hS5⟩; rw [HC2.out])
    all_goals
      go_wp2_with fail
      go_meet
      exact ⟨rfl, S5, hD5, tch_drew hT5, hS5⟩
  case rest =>
  obtain ⟨rfl, S5, hD5, hT5, hS5⟩ := hcut
  rename World => w5
  have HD5 := Lib.hid hD5
  have HT5 := Lib.hid hT5
  have HS5 := Lib.hid hS5
  clear hD5 hT5 hS5
  go_upto_region 4 with fail
  first | go_region_with (fail) | go_region | go_quiet (fail)
  all_goals
    go_wp2_with fail
    go_ret
    refine ⟨rfl, S5, HD5.out.below (Below.drew (Below.refl _ _)), ?_, ?_⟩
    · have t0 : Tch S w W := Tch.of_below HB0.out
      have hz := HB0.out.size
      exact ((t0.then_ HT3.out (fun i h => .inl h)).then_ HT5.out (fun i h => (HS3.out i h).elim .inl (fun h2 => .inr (by omega)))).drew
    · intro b h
      have hz := HB0.out.size
      have hz3 := HT3.out.size
      rcases HS5.out b h with h1 | h1
      · rcases HS3.out b h1 with h2 | h2
        · exact .inl h2
        · exact .inr (by omega)
      · exact .inr (by omega)
end Go.Proofs.YtciikcmiiebfpaaGreatDoor
end

/- PlogAp -/
section
/- plog: Size, Dead; Append of one plain batch to a fresh log. -/
namespace Go.Proofs.YtciikcmiiebfpaaGreatDoor
open Go Go.RowKit Go.Maps Go.Proofs.YtciikcmiiebfpaaGreatDoorW.PrintWords Go.Proofs.YtciikcmiiebfpaaGreatDoor.PTopicsGets Go.Proofs.YtciikcmiiebfpaaGreatDoorW.PrintMore
set_option linter.unusedVariables false
set_option linter.unusedSimpArgs false

theorem pdead_any {w : World} {l d t : Nat} {dir : ByteArray} {sz : Int} {v : Value} {dead : Bool} (h : LogB w l d dir sz v t dead) :
    Calls Tryz.prog 38 #[.pointer (some ⟨l, 0, none⟩)] w fun r w' => r = .returned (.bool dead) ∧ Below w.heap.size w w' := by
  have c5 : w.cell? ⟨l, 5, none⟩ = some (.bool dead) := blk_cell h 5
  clear h
  go_enter Tryz.func38, Tryz.ntmps38
  go_wp2_with fail
  go_ret
  exact ⟨rfl, Below.refl _ _⟩
set_option maxRecDepth 100000 in
theorem psize_none {w : World} {l d t : Nat} {dir : ByteArray} {sz : Int} {dead : Bool} (h : LogB w l d dir sz (.slice none 0 0) t dead) :
    Calls Tryz.prog 37 #[.pointer (some ⟨l, 0, none⟩)] w fun r w' => r = .returned (.int .i64 0) ∧ Below w.heap.size w w' := by
  have c3 : w.cell? ⟨l, 3, none⟩ = some (.slice none 0 0) := blk_cell h 3
  clear h
  go_enter Tryz.func37, Tryz.ntmps37
  go_wp2_with fail
  refine wp_loop_rounds 1 ?_
  rw [rounds_succ]
  go_wp2_with fail
  all_goals
    go_ret
    exact ⟨rfl, Below.refl _ _⟩
set_option maxRecDepth 100000 in
theorem psize_one {w : World} {l d t B c g : Nat} {dir nm : ByteArray} {sz base : Int} {dead : Bool} {A : Option Addr} {es : List Ix.Ent} {ve vp : Value} (h : LogB w l d dir sz (.slice A 1 c) t dead) (ho : Ix.Owns w B 100 2 (.slice A 1 c) 1 [.pointer (some ⟨g, 0, none⟩), .string nm])
    (hx : Ix.IX w g base es ve vp) (hes : es.length ≤ 100000) (hs : 0 ≤ Ix.sizeOf es ∧ Ix.sizeOf es ≤ 1000000000000) :
    Calls Tryz.prog 37 #[.pointer (some ⟨l, 0, none⟩)] w fun r w' => r = .returned (.int .i64 (Ix.sizeOf es)) ∧ Below w.heap.size w w' := by
  have c3 : w.cell? ⟨l, 3, none⟩ = some (.slice A 1 c) := blk_cell h 3
  obtain ⟨b, cap, e, _, hbl, _, _, hx2⟩ := ho.form (by decide)
  injection e with e1 e2 e3
  subst e1
  have k0 : w.cell? ⟨b, 0, none⟩ = some (.pointer (some ⟨g, 0, none⟩)) := hx2 0 _ rfl
  have k1 : w.cell? ⟨b, 1, none⟩ = some (.string nm) := hx2 1 _ rfl
  have HB0 : Hid (Below w.heap.size w (w.alloc (.cells #[.pointer (some ⟨g, 0, none⟩), .string nm] 100))) := (Below.refl _ _).alloc (Nat.le_refl _) _
  have HZ0 : Hid ((w.alloc (.cells #[.pointer (some ⟨g, 0, none⟩), .string nm] 100)).heap[w.heap.size]? = some (.cells #[.pointer (some ⟨g, 0, none⟩), .string nm] 100 (0, 0))) := blk_new _ _
  have HS := Lib.hid (Ix.size_any (w.alloc (.cells #[.pointer (some ⟨g, 0, none⟩), .string nm] 100)) g base es ve vp (hx.below HB0.out) (by omega))
  obtain ⟨s, hs'⟩ : ∃ s, s = Ix.sizeOf es := ⟨_, rfl⟩
  rw [← hs'] at HS hs ⊢
  clear h ho hx hes hx2 hs' e2 e3
  go_enter Tryz.func37, Tryz.ntmps37
  go_wp2_with fail
  refine wp_loop_rounds 2 ?_
  rw [rounds_succ]
  go_wp2_with fail
  refine HS.out.mono ?_
  rintro r w1 ⟨rfl, hb⟩
  have HB := Lib.hid (HB0.out.trans (hb.mono HB0.out.size))
  clear hb
  go_wp2_with fail
  rw [rounds_succ]
  go_wp2_with fail
  all_goals
    go_ret
    exact ⟨rfl, HB.out⟩

def oneE : Ix.Ent := ⟨0, 1, 0, 68, 7, -1, -1, -1⟩
/-- The steps' answers at a disk where nothing is planned. -/
structure ThreeOk (k : Dk) (nm : Nm) (b : List Int) (k1 k2 k3 : Dk) : Prop where
  e1 : stepD (createD nm) (fun k _ => k) k = (k1, 0)
  e2 : stepD (appendD b nm) (partD b nm) k1 = (k2, 0)
  e3 : stepD (syncD nm) (fun k _ => k) k2 = (k3, 0)
set_option maxRecDepth 100000 in
set_option maxHeartbeats 8000000 in
theorem append_one {w : World} {l d t N c : Nat} {S : Nat → Prop} {k k1 k2 k3 : Dk} {dir : ByteArray} {A : Option Addr} (h : LogB w l d dir 100 (.slice none 0 0) t false) (hd : dir.size ≤ 1000) (hl : Lb.LibOk w) (HT : ∀ W, Tch (fun b => S b ∨ b = l) w W → Tab W) (hD : Disk w d S k N) (hN : N < 800000000000) (hSl : ¬ S l) (hSlt : ∀ b, S b → b < w.heap.size)
    (HC : CB w A 68 oneB) (hc : 68 ≤ c) (hk : ThreeOk k (nameS dir 0).data.toList oneB k1 k2 k3) :
    Calls Tryz.prog 12 #[.pointer (some ⟨l, 0, none⟩), .slice A 68 c, .int .i32 0] w fun r w' => r = .returned (.tuple #[.int .i64 0, .int .i64 0]) ∧
      ∃ g A' c' ve vp, LogB w' l d dir 100 (.slice A' 1 c') t false ∧ Ix.Owns w' w.heap.size 100 2 (.slice A' 1 c') 1 [.pointer (some ⟨g, 0, none⟩), .string (nameS dir 0)] ∧ Ix.IX w' g 0 [oneE] ve vp ∧ Tch (fun b => S b ∨ b = l) w w' := by
  have hll := blk_lt h
  have HLG := Lib.hid h
  have HLL := Lib.hid hll
  have HLI := Lib.hid hl
  have HTB := Lib.hid HT
  have HDK := Lib.hid hD
  have HSL := Lib.hid hSl
  have HSLT := Lib.hid hSlt
  have HK := Lib.hid hk
  have HDE := Lib.hid (setDec_ok (c := c) (by decide) hc (by decide) HC (HT w (Tch.refl _ _)) oneB_ok)
  have HCB := Lib.hid HC
  have c5 : w.cell? ⟨l, 5, none⟩ = some (.bool false) := blk_cell h 5
  clear h hl HT hD hSl hSlt HC hk hll
  go_enter Tryz.func12, Tryz.ntmps12
  go_wp2_with fail
  refine HDE.out.mono ?_
  rintro r w1 ⟨hb1, A1, c1, R1, rc1, rfl, hO1⟩
  have HB1 := Lib.hid hb1
  have HO1 := Lib.hid hO1
  have HE1 := Lib.hid (end_none (HLG.out.below hb1))
  have HPL := Lib.hid (place_ok (c := c) 0 0 (by decide) hc (by decide) (HCB.out.below hb1) (HTB.out w1 (Tch.of_below hb1)) oneB_ok (by decide))
  rw [oneB_reb] at HPL
  clear hb1 hO1 HDE
  go_wp2_with fail
  refine HE1.out.mono ?_
  rintro r w1 ⟨rfl, rfl⟩
  clear HE1
  go_wp2_with fail
  refine HPL.out.mono ?_
  rintro r w2 ⟨hb2, A2, c2, hc2, rfl, hO2⟩
  have hOn := Owns_below HO1.out.own hb2
  obtain ⟨b1, cap1, e, hge, hbl, _, _, hx2⟩ := hOn.form (by decide)
  injection e with e1 e2 e3
  subst e1
  have k0 : w2.cell? ⟨b1, 0, none⟩ = some (.int .i64 0) := hx2 0 _ rfl
  have k1_ : w2.cell? ⟨b1, 1, none⟩ = some (.int .i32 0) := hx2 1 _ rfl
  have k2_ : w2.cell? ⟨b1, 2, none⟩ = some (.int .i64 (-1)) := hx2 2 _ rfl
  have k3_ : w2.cell? ⟨b1, 3, none⟩ = some (.int .i16 (-1)) := hx2 3 _ rfl
  have k4_ : w2.cell? ⟨b1, 4, none⟩ = some (.int .i32 (-1)) := hx2 4 _ rfl
  have k5_ : w2.cell? ⟨b1, 5, none⟩ = some (.slice R1 1 rc1) := hx2 5 _ rfl
  have HB2 := Lib.hid (HB1.out.trans (hb2.mono HB1.out.size))
  have HO2 := Lib.hid hO2
  have HS1 := Lib.hid HB1.out.size
  clear hb2 hO2 hOn hx2 e2 e3 HPL HO1 c5
  go_wp2_with fail
  have HB3 : Hid (Below w.heap.size w (w2.alloc (.cells #[.int .i64 0, .int .i32 0, .int .i64 (-1), .int .i16 (-1), .int .i32 (-1), .slice R1 1 rc1] 95))) := HB2.out.alloc HB2.out.size _
  have HO3 : Hid (Ix.Owns (w2.alloc (.cells #[.int .i64 0, .int .i32 0, .int .i64 (-1), .int .i16 (-1), .int .i32 (-1), .slice R1 1 rc1] 95)) w1.heap.size 5 1 (.slice A2 68 c2) 68 (u8s oneB)) := Owns_below HO2.out ((Below.refl _ _).alloc (Nat.le_refl _) _)
  have HS2 : Hid (∀ q, (Value.slice A2 68 c2).ownBlock = some q → q < (w2.alloc (.cells #[.int .i64 0, .int .i32 0, .int .i64 (-1), .int .i16 (-1), .int .i32 (-1), .slice R1 1 rc1] 95)).heap.size) := fun q hq => Nat.lt_of_lt_of_le (HO2.out.lt q hq).2 (by rw [World.size_alloc]; omega)
  clear k0 k1_ k2_ k3_ k4_ k5_ HO2 HB2
  generalize w2.alloc (.cells #[.int .i64 0, .int .i32 0, .int .i64 (-1), .int .i16 (-1), .int .i32 (-1), .slice R1 1 rc1] 95) = W3 at *
  have HNM : Hid ((nameS dir 0).size ≤ maxLen) := by show _ ≤ _; rw [nameS_size dir 0 (by decide)]; unfold maxLen; omega
  refine (active_ok (n := 68) (HLG.out.below HB3.out) hd (HLI.out.below HB3.out) (HDK.out.below HB3.out) (by omega) HSL.out (fun b hb => Nat.lt_of_lt_of_le (HSLT.out b hb) HB3.out.size) (by rw [HK.out.e1])).mono ?_
  rintro r w4 ⟨g, A4, c4, S4, rfl, hLG4, hO4, hI4, hg4, hSg, hSl4, hSo4, hD4, hT4, hS4⟩
  rw [HK.out.e1] at hD4
  have hq : ∀ q, (Value.slice A2 68 c2).ownBlock = some q → w.heap.size ≤ q := fun q hq => Nat.le_trans HB1.out.size (Owns_ge HO3.out q hq)
  have hOw4 := Owns_tch HO3.out hT4 (fun q h1 h2 => by
    have h3 := hq q h1
    rcases h2 with h2 | h2
    · have := HSLT.out q h2; omega
    · have := HLL.out; omega)
  have hOw5 := Owns_below hOw4 ((Below.refl _ _).alloc (Nat.le_refl _) (.cells #[.pointer (some ⟨g, 0, none⟩), .string (nameS dir 0)] 100))
  have hB5 : Below w4.heap.size w4 (w4.alloc (.cells #[.pointer (some ⟨g, 0, none⟩), .string (nameS dir 0)] 100)) := (Below.refl _ _).alloc (Nat.le_refl _) _
  have hx5 := blk_new w4 (.cells #[.pointer (some ⟨g, 0, none⟩), .string (nameS dir 0)] 100)
  have hlt4 : ∀ b, S4 b → b < w4.heap.size := fun b hb => hD4.lt hb
  have HWR := Lib.hid (write_ok (g := g) (c := c2) (b := oneB) (hLG4.below hB5) HNM.out (hD4.below hB5) (by omega) hSl4 (fun b hb => Nat.lt_of_lt_of_le (hlt4 b hb) hB5.size) (fun W hW => Owns_CB (Owns_tch hOw5 hW (fun q h1 h2 => by
      have h3 := hq q h1
      have h4 := HS2.out q h1
      rcases hS4 q h2 with h5 | h5
      · have := HSLT.out q h5; omega
      · omega)) (by decide) (by decide)) oneB_byt (by decide) hc2 (by rw [HK.out.e2]) (by rw [HK.out.e2]; show (stepD _ _ k2).2 = 0; rw [HK.out.e3]))
  have HLG4 := Lib.hid hLG4
  have HO4 := Lib.hid hO4
  have HI4 := Lib.hid hI4
  have HG4 := Lib.hid hg4
  have HSG := Lib.hid hSg
  have HSL4 := Lib.hid hSl4
  have HSO4 := Lib.hid hSo4
  have HT4 := Lib.hid hT4
  have HS4 := Lib.hid hS4
  have HOW5 := Lib.hid hOw5
  have HX5 := Lib.hid hx5
  have HB5 := Lib.hid hB5
  have HLT4 := Lib.hid hlt4
  have HQ := Lib.hid hq
  have s0 := two_0 hx5
  have s1 := two_1 hx5
  clear hLG4 hO4 hI4 hg4 hSg hSl4 hSo4 hD4 hT4 hS4 hOw4 hOw5 hx5 hB5 hlt4 hq HO3 HDK HLI HNM
  go_wp2_with fail
  refine HWR.out.mono ?_
  rintro r w6 ⟨rfl, S6, hD6, hT6, hS6⟩
  have hsb : w4.heap.size < (w4.alloc (.cells #[.pointer (some ⟨g, 0, none⟩), .string (nameS dir 0)] 100)).heap.size := blk_lt HX5.out
  have hOw6 := Owns_tch HOW5.out hT6 (fun q h1 h2 => by
    have h3 := HQ.out q h1
    have h4 := HS2.out q h1
    rcases HS4.out q h2 with h5 | h5
    · have := HSLT.out q h5; omega
    · omega)
  have hx6 := (hT6.block w4.heap.size hsb (fun h => by have := HLT4.out _ h; omega)).trans HX5.out
  have hlg6 : LogB w6 l d dir 100 (.slice A4 1 c4) t false := (hT6.block l (blk_lt (HLG4.out.below HB5.out)) HSL4.out).trans (HLG4.out.below HB5.out)
  have ho6 := Owns_tch (Owns_below HO4.out HB5.out) hT6 (fun q h1 h2 => HSO4.out q h1 h2)
  have hI6 : Ix0 w6 g := (hT6.block g (Nat.lt_of_lt_of_le (blk_lt HI4.out) HB5.out.size) HSG.out).trans (blk_below HI4.out HB5.out)
  have t3 : Tch (fun b => S b ∨ b = l) w W3 := Tch.of_below HB3.out
  have t4 := t3.then_ HT4.out (fun i h => .inl h)
  have t5 := t4.trans (Tch.of_below HB5.out)
  have t6 := t5.then_ hT6 (fun i h => (HS4.out i h).elim (fun h2 => .inl (.inl h2)) (fun h2 => .inr (by have := HB3.out.size; omega)))
  have HSC := Lib.hid (scan_one (c := c2) (by decide) hc2 (by decide) (Owns_CB hOw6 (by decide) (by decide)) (HTB.out w6 t6) oneB_ok)
  have HX6 := Lib.hid hx6
  have HLG6 := Lib.hid hlg6
  have HO6 := Lib.hid ho6
  have HI6 := Lib.hid hI6
  have HT6 := Lib.hid t6
  have hg6 : w.heap.size ≤ g := Nat.le_trans HB3.out.size HG4.out
  have hl6 : w4.heap.size < w6.heap.size := blk_lt hx6
  have HG6 := Lib.hid hg6
  have HW4 : Hid (w.heap.size ≤ w4.heap.size) := by show _ ≤ _; have := HT4.out.size; have := HB3.out.size; omega
  clear hD6 hT6 hS6 hsb hOw6 hx6 hlg6 ho6 hI6 t3 t4 t5 t6 hg6 s0 s1 HOW5 HX5 HB5 HLT4 HQ HSO4 HSL4 HSG HI4 HO4 HLG4 HWR HT4 HTB
  go_wp2_with fail
  have hfld : ∀ (A : Option Addr) (n c : Nat) (x y z : Int) (W : World), (Instr.field 106 (.agg #[.slice A n c, .int .i64 x, .int .i64 y, .int .i64 z]) 0).run Tryz.prog W = .ok (.slice A n c) W := fun _ _ _ _ _ _ _ => by kernel_rfl
  refine HSC.out.mono ?_
  rintro r w7 ⟨hb7, A7, c7, rfl, ho7⟩
  obtain ⟨b7, cap7, e, hge7, hbl7, _, _, hx2⟩ := ho7.form (by decide)
  injection e with e1 e2 e3
  subst e1
  have hx7 := blk_below HX6.out hb7
  have HB7 := Lib.hid hb7
  have HX7 := Lib.hid hx7
  have k0 : w7.cell? ⟨b7, 0, none⟩ = some (.int .i64 0) := hx2 0 _ rfl
  have k1_ : w7.cell? ⟨b7, 1, none⟩ = some (.int .i64 1) := hx2 1 _ rfl
  have k2_ : w7.cell? ⟨b7, 2, none⟩ = some (.int .i64 0) := hx2 2 _ rfl
  have k3_ : w7.cell? ⟨b7, 3, none⟩ = some (.int .i64 68) := hx2 3 _ rfl
  have k4_ : w7.cell? ⟨b7, 4, none⟩ = some (.int .i64 7) := hx2 4 _ rfl
  have k5_ : w7.cell? ⟨b7, 5, none⟩ = some (.int .i64 (-1)) := hx2 5 _ rfl
  have k6_ : w7.cell? ⟨b7, 6, none⟩ = some (.int .i16 (-1)) := hx2 6 _ rfl
  have k7_ : w7.cell? ⟨b7, 7, none⟩ = some (.int .i32 (-1)) := hx2 7 _ rfl
  have s0 := two_0 hx7
  have hB8 : Below w7.heap.size w7 (w7.alloc (.cells #[.int .i64 0, .int .i64 1, .int .i64 0, .int .i64 68, .int .i64 7, .int .i64 (-1), .int .i16 (-1), .int .i32 (-1)] 109)) := (Below.refl _ _).alloc (Nat.le_refl _) _
  have HX8 : Hid ((w7.alloc (.cells #[.int .i64 0, .int .i64 1, .int .i64 0, .int .i64 68, .int .i64 7, .int .i64 (-1), .int .i16 (-1), .int .i32 (-1)] 109)).heap[w7.heap.size]? = some (.cells #[.int .i64 0, .int .i64 1, .int .i64 0, .int .i64 68, .int .i64 7, .int .i64 (-1), .int .i16 (-1), .int .i32 (-1)] 109 (0, 0))) := blk_new _ _
  have HB8 := Lib.hid hB8
  have s0' := two_0 (blk_below hx7 hB8)
  clear hb7 ho7 e2 e3 hx2 hx7 hB8
  go_wp2_with fail
  refine wp_loop_rounds 2 ?_
  rw [rounds_succ]
  go_wp2_with fail
  refine (Ix.size_any (w7.alloc (.cells #[.int .i64 0, .int .i64 1, .int .i64 0, .int .i64 68, .int .i64 7, .int .i64 (-1), .int .i16 (-1), .int .i32 (-1)] 109)) g 0 [] (.slice none 0 0) (.slice none 0 0) (Ix0.ix (blk_below (blk_below HI6.out HB7.out) HB8.out)) (by decide)).mono ?_
  rintro r w9 ⟨rfl, hb9⟩
  have hsz : Ix.sizeOf [] = 0 := rfl
  rw [hsz]
  have hx9 := blk_below HX8.out hb9
  have hs9 := blk_below (blk_below HX7.out HB8.out) hb9
  have hi9 : Ix0 w9 g := blk_below (blk_below (blk_below HI6.out HB7.out) HB8.out) hb9
  have hlt7 : w6.heap.size ≤ w7.heap.size := HB7.out.size
  have HB9 : Hid (Below w6.heap.size w6 w9) := (HB7.out.trans (HB8.out.mono HB7.out.size)).trans (hb9.mono (Nat.le_trans HB7.out.size HB8.out.size))
  have e0 : w9.cell? ⟨w7.heap.size, 0, none⟩ = some (.int .i64 0) := blk_cell hx9 0
  have e1 : w9.cell? ⟨w7.heap.size, 1, none⟩ = some (.int .i64 1) := blk_cell hx9 1
  have e2 : w9.cell? ⟨w7.heap.size, 2, none⟩ = some (.int .i64 0) := blk_cell hx9 2
  have e3 : w9.cell? ⟨w7.heap.size, 3, none⟩ = some (.int .i64 68) := blk_cell hx9 3
  have e4 : w9.cell? ⟨w7.heap.size, 4, none⟩ = some (.int .i64 7) := blk_cell hx9 4
  have e5 : w9.cell? ⟨w7.heap.size, 5, none⟩ = some (.int .i64 (-1)) := blk_cell hx9 5
  have e6 : w9.cell? ⟨w7.heap.size, 6, none⟩ = some (.int .i16 (-1)) := blk_cell hx9 6
  have e7 : w9.cell? ⟨w7.heap.size, 7, none⟩ = some (.int .i32 (-1)) := blk_cell hx9 7
  have ef := blk_frozen hx9 2
  have es := two_0 hs9
  have n1 : ¬ w7.heap.size = w4.heap.size := by omega
  have n2 : ¬ w4.heap.size = w7.heap.size := by omega
  have hx10 := blk_put hx9 2 (.int .i64 0) rfl
  have hs10 := blk_far hs9 (p := ⟨w7.heap.size, 2, none⟩) (by dsimp only; omega) (.int .i64 0)
  have hgne : g ≠ w7.heap.size := blk_ne hi9 hx9 (by decide)
  have hi10 : Ix0 (w9.setCell ⟨w7.heap.size, 2, none⟩ (.int .i64 0)) g := blk_far hi9 (p := ⟨w7.heap.size, 2, none⟩) (by dsimp only; exact hgne) (.int .i64 0)
  have HB10 : Hid (Below w6.heap.size w6 (w9.setCell ⟨w7.heap.size, 2, none⟩ (.int .i64 0))) := HB9.out.setCell (p := ⟨w7.heap.size, 2, none⟩) (by dsimp only; omega) _
  have HX10 := Lib.hid hx10
  have HI10 := Lib.hid hi10
  have HAD := Lib.hid (Ix.add_any _ g 0 [] (.slice none 0 0) (.slice none 0 0) hi10.ix oneE (by decide))
  clear hb9 hx9 hs9 hi9 HB9 HX7 HX8 HI6 k0 k1_ k2_ k3_ k4_ k5_ k6_ k7_ s0 s0' hx10 hs10 hi10 HB8 hgne
  go_wp2_with fail
  refine HAD.out.mono ?_
  rintro r w11 ⟨rfl, ve, vp, hix, hkp, _⟩
  have haddto : Ix.addTo 0 [] oneE = [oneE] := by decide
  rw [haddto] at hix
  have hT11 : Tch (fun q => q = g) (w9.setCell ⟨w7.heap.size, 2, none⟩ (.int .i64 0)) w11 := ⟨hkp.os, hkp.tape, hkp.output, hkp.size, fun q hq hn => hkp.block q hq (fun hf => hf.elim hn (fun h => h.elim (fun h => by cases h) (fun h => by cases h)))⟩
  have hlg10 := HLG6.out.below HB10.out
  have hlg11 : LogB w11 l d dir 100 (.slice A4 1 c4) t false := (hT11.block l (blk_lt hlg10) (blk_ne hlg10 HI10.out (by decide))).trans hlg10
  have hx11 := (hT11.block w7.heap.size (blk_lt HX10.out) (blk_ne HX10.out HI10.out (by decide))).trans HX10.out
  have ho11 := Owns_tch (Owns_below HO6.out HB10.out) hT11 (fun q h1 h2 => Owns_ne (Owns_below HO6.out HB10.out) HI10.out (by decide) q h1 h2)
  have e0 : w11.cell? ⟨w7.heap.size, 0, none⟩ = some (.int .i64 0) := blk_cell hx11 0
  have e1 : w11.cell? ⟨w7.heap.size, 1, none⟩ = some (.int .i64 1) := blk_cell hx11 1
  have e5 : w11.cell? ⟨w7.heap.size, 5, none⟩ = some (.int .i64 (-1)) := blk_cell hx11 5
  have e6 : w11.cell? ⟨w7.heap.size, 6, none⟩ = some (.int .i16 (-1)) := blk_cell hx11 6
  have e7 : w11.cell? ⟨w7.heap.size, 7, none⟩ = some (.int .i32 (-1)) := blk_cell hx11 7
  have l4 : w11.cell? ⟨l, 4, none⟩ = some (.pointer (some ⟨t, 0, none⟩)) := blk_cell hlg11 4
  have HLG11 := Lib.hid hlg11
  have HO11 := Lib.hid ho11
  have HIX := Lib.hid hix
  have HT11 := Lib.hid hT11
  have HNN := Lib.hid (fun (W : World) => (note_none (.pointer (some ⟨t, 0, none⟩)) (-1) (-1) 1 0 W).mono (fun r w' h => (⟨h.2, h.1⟩ : r = .returned (.int .i64 0) ∧ w' = W)))
  clear hix hkp hT11 hlg10 hlg11 hx11 ho11 e2 e3 e4 ef es n1 n2 HAD haddto
  go_wp2_with fail
  go_quiet ((go_at_call 35; exact Calls.quiet_of_same (HNN.out _)))
  go_wp2_with fail
  rw [rounds_succ]
  go_wp2_with fail
  go_ret2
  have hq : Below w11.heap.size w11 (w11.drewN nq) := pw_below_drewN (Below.refl _ _) nq
  exact ⟨rfl, g, A4, c4, ve, vp, HLG11.out.below hq, Owns_down (Owns_below HO11.out hq) HB3.out.size, HIX.out.below hq, ((HT6.out.trans (Tch.of_below HB10.out)).then_ HT11.out (fun i h => .inr (by have : i = g := h; have := HG6.out; omega))).trans (Tch.of_below hq)⟩
end Go.Proofs.YtciikcmiiebfpaaGreatDoor
end
