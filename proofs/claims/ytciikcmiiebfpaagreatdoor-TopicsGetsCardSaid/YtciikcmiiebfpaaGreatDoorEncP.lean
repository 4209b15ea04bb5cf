/- EncA, EncP as one text (a claim holds at most 60 files). -/
import Derived.Test.YtciikcmiiebfpaaGreatDoorPlogA
import Derived.Test.YtciikcmiiebfpaaGreatDoorPTopicsGetsx11
import Derived.Test.YtciikcmiiebfpaaGreatDoorPTopicsGetsx12
import Derived.Test.YtciikcmiiebfpaaGreatDoorPTopicsGetsx15
import Derived.Test.YtciikcmiiebfpaaGreatDoorPTopicsGetsx16
import Derived.Test.YtciikcmiiebfpaaGreatDoorLoadS

/- EncA -/
section
/- The reference's helpers at numbers and bytes that are given: Digits, Cat, Put, blob, Sum. -/
namespace Go.Proofs.YtciikcmiiebfpaaGreatDoor
open Go Go.RowKit Go.Maps Go.Proofs.YtciikcmiiebfpaaGreatDoorW.PrintWords Go.Proofs.YtciikcmiiebfpaaGreatDoor.PTopicsGets Go.Proofs.YtciikcmiiebfpaaGreatDoorW.PrintMore
set_option linter.unusedVariables false

/-- A call that makes bytes. -/
def MkB (w : World) (m : Nat) (l : List Int) (e : Ending) (w' : World) : Prop := Below w.heap.size w w' ∧ ∃ A c, e = .returned (.slice A m c) ∧ m ≤ c ∧ CB w' A m l ∧ ∀ k, (Value.slice A m c).ownBlock = some k → w.heap.size ≤ k
theorem mkb_of {w : World} {m : Nat} {l : List Int} {e : Ending} {w' : World} {ok : Nat → Prop} (hm : m = l.length) (h : ∃ v, e = .returned v ∧ Kd.R (Kd.int .u8) 5 w' w.heap.size ok v l ∧ Below w.heap.size w w') : MkB w m l e w' := by
  obtain ⟨v, rfl, hr, hb⟩ := h
  obtain ⟨A, c, rfl⟩ := Kd.R_slice hr
  obtain ⟨_, h2, h3⟩ := Kd.R_reads' hr
  subst hm
  exact ⟨hb, A, c, rfl, h2, h3, fun k hk => ((Kd.R_bound hr).1 k hk).2.1⟩
theorem dig_c (w : World) (v n : Int) (m : Nat) (l : List Int) (hf : leatref01_Digits.f 40 v n = some l) (hm : m = l.length) : Calls Tryz.prog 139 #[.int .i64 v, .int .i64 n] w (MkB w m l) :=
  (leatref01_Digits.calls 40 v n l w hf).mono fun e w' h => mkb_of hm h
theorem cat_c (w : World) (A0 A1 : Option Addr) (n0 n1 c0 c1 : Nat) (l0 l1 l : List Int) (m : Nat) (h0 : CB w A0 n0 l0) (h1 : CB w A1 n1 l1) (hc0 : n0 ≤ c0) (hc1 : n1 ≤ c1) (hf : leatref01_Cat.f 200 l0 l1 = some l) (hm : m = l.length) :
    Calls Tryz.prog 83 #[.slice A0 n0 c0, .slice A1 n1 c1] w (MkB w m l) := by
  obtain rfl : n0 = l0.length := (Kd.C_len h0).symm
  obtain rfl : n1 = l1.length := (Kd.C_len h1).symm
  exact (leatref01_Cat.calls 200 A0 c0 l0 A1 c1 l1 l w h0 hc0 h1 hc1 hf).mono fun e w' h => mkb_of hm h
theorem put_c (w : World) (v : Int) (m : Nat) (l : List Int) (hf : leatref02_Put.f 40 v = some l) (hm : m = l.length) : Calls Tryz.prog 184 #[.int .i64 v] w (MkB w m l) :=
  (leatref02_Put.calls 40 v l w hf).mono fun e w' h => mkb_of hm h
theorem blob_c (w : World) (m : Nat) (l : List Int) (hf : leatref07_blob.f 200 false [] = some l) (hm : m = l.length) : Calls Tryz.prog 274 #[.agg #[.bool false, .slice none 0 0]] w (MkB w m l) :=
  (leatref07_blob.calls 200 false none 0 [] l w (Kd.C_nil _ _) (Nat.le_refl _) hf).mono fun e w' h => mkb_of hm h
theorem badblob_c (w : World) : Calls Tryz.prog 272 #[.agg #[.bool false, .slice none 0 0]] w fun e w' => Below w.heap.size w w' ∧ e = .returned (.bool false) :=
  (leatref07_badBlob.calls false none 0 [] false w (Kd.C_nil _ _) (Nat.le_refl _) (by kernel_rfl)).mono fun e w' h => ⟨h.2, h.1⟩
theorem sum_c (w : World) (A : Option Addr) (n c : Nat) (l : List Int) (x : Int) (h : CB w A n l) (hc : n ≤ c) (hf : leatref03_Sum.f 500 l = some x) : Calls Tryz.prog 141 #[.slice A n c] w fun e w' => Below w.heap.size w w' ∧ e = .returned (.int .u32 x) := by
  obtain rfl : n = l.length := (Kd.C_len h).symm
  exact (leatref03_Sum.calls 500 A c l x w h hc hf).mono fun e w' h => ⟨h.2.below, h.1⟩
/-- Bytes that are read stay where other blocks are touched. -/
theorem CB_tch {w w' : World} {A : Option Addr} {m c : Nat} {l : List Int} {S : Nat → Prop} (h : CB w A m l) (ht : Tch S w w') (hS : ∀ k, (Value.slice A m c).ownBlock = some k → ¬ S k) : CB w' A m l := by
  have hr := Kd.reads_of_C (d := (0 : Int)) h
  refine Kd.C_of_reads (d := (0 : Int)) ⟨hr.1, hr.2.1, fun h0 => ?_⟩
  obtain ⟨a, e, hc⟩ := hr.2.2 h0
  refine ⟨a, e, fun j hj => ?_⟩
  have h1 := hc j hj
  have hb : (a.add j).block = a.block := Ix.add_block a j
  rw [← h1]
  exact ht.cell (a := a.add j) (World.block_lt_of_cell? w _ h1) (by rw [hb]; exact hS a.block (by rw [e]; rfl))
/-- A call that makes bytes, told as the print tells them. -/
def MkR (w : World) (m : Nat) (l : List Int) (e : Ending) (w' : World) : Prop := Below w.heap.size w w' ∧ ∃ A c, e = .returned (.slice A m c) ∧ m ≤ c ∧ Kd.R (Kd.int .u8) 5 w' w.heap.size (fun _ => True) (.slice A m c) l
theorem cat_r (w : World) (A0 A1 : Option Addr) (n0 n1 c0 c1 : Nat) (l0 l1 l : List Int) (m : Nat) (h0 : CB w A0 n0 l0) (h1 : CB w A1 n1 l1) (hc0 : n0 ≤ c0) (hc1 : n1 ≤ c1) (hf : leatref01_Cat.f 200 l0 l1 = some l) (hm : m = l.length) :
    Calls Tryz.prog 83 #[.slice A0 n0 c0, .slice A1 n1 c1] w (MkR w m l) := by
  obtain rfl : n0 = l0.length := (Kd.C_len h0).symm
  obtain rfl : n1 = l1.length := (Kd.C_len h1).symm
  refine (leatref01_Cat.calls 200 A0 c0 l0 A1 c1 l1 l w h0 hc0 h1 hc1 hf).mono ?_
  rintro e w' ⟨v, rfl, hr, hb⟩
  obtain ⟨A, c, rfl⟩ := Kd.R_slice hr
  obtain ⟨_, h2, h3⟩ := Kd.R_reads' hr
  subst hm
  exact ⟨hb, A, c, rfl, h2, hr⟩
theorem t_put0 : leatref02_Put.f 40 0 = some [0] := by kernel_rfl
theorem t_put6 : leatref02_Put.f 40 6 = some [12] := by kernel_rfl
theorem t_blob : leatref07_blob.f 200 false [] = some [0] := by kernel_rfl
end Go.Proofs.YtciikcmiiebfpaaGreatDoor
end

/- EncP -/
section
/- The reference's writing of a set of one batch of one record at time 7. Printed by gen_enc.py. -/
namespace Go.Proofs.YtciikcmiiebfpaaGreatDoor
open Go Go.RowKit Go.Maps Go.Proofs.YtciikcmiiebfpaaGreatDoorW.PrintWords Go.Proofs.YtciikcmiiebfpaaGreatDoor.PTopicsGets Go.Proofs.YtciikcmiiebfpaaGreatDoorW.PrintMore
set_option linter.unusedVariables false
set_option linter.unusedSimpArgs false

abbrev rowAgg : Value := .agg #[.int .i64 0, .int .i32 0, .bool false, .slice none 0 0, .bool false, .slice none 0 0, .slice none 0 0]

set_option maxRecDepth 100000 in
theorem body_one (w : World) : Calls Tryz.prog 232 #[rowAgg] w (MkB w 6 [0, 0, 0, 0, 0, 0]) := by
  have HB : Hid (Below w.heap.size w ((w.alloc (.cells #[.int .i64 0, .int .i32 0, .bool false, .slice none 0 0, .bool false, .slice none 0 0, .slice none 0 0] 236)).alloc (.cells #[.int .u8 0] 5))) := ((Below.refl _ _).alloc (Nat.le_refl _) _).alloc (by rw [World.size_alloc]; omega) _
  have X0 : Hid (((w.alloc (.cells #[.int .i64 0, .int .i32 0, .bool false, .slice none 0 0, .bool false, .slice none 0 0, .slice none 0 0] 236)).alloc (.cells #[.int .u8 0] 5)).heap[w.heap.size]? = some (.cells #[.int .i64 0, .int .i32 0, .bool false, .slice none 0 0, .bool false, .slice none 0 0, .slice none 0 0] 236 (0, 0))) := blk_alloc (blk_new _ _) _
  have HL : Hid (((w.alloc (.cells #[.int .i64 0, .int .i32 0, .bool false, .slice none 0 0, .bool false, .slice none 0 0, .slice none 0 0] 236)).alloc (.cells #[.int .u8 0] 5)).heap[w.heap.size + 1]? = some (.cells #[.int .u8 0] 5 (0, 0))) := by
    have := blk_new (w.alloc (.cells #[.int .i64 0, .int .i32 0, .bool false, .slice none 0 0, .bool false, .slice none 0 0, .slice none 0 0] 236)) (.cells #[.int .u8 0] 5)
    rw [World.size_alloc] at this
    exact this
  go_enter Tryz.func232, Tryz.ntmps232
  go_wp2_with fail
  generalize (w.alloc (.cells #[.int .i64 0, .int .i32 0, .bool false, .slice none 0 0, .bool false, .slice none 0 0, .slice none 0 0] 236)).alloc (.cells #[.int .u8 0] 5) = w0 at *
  have hC := lit_C (W := w0) (g := w.heap.size + 1) (n := 1) [0] HL.out rfl rfl (by decide)
  have HC_z := Lib.hid hC
  clear hC HL
  have q0_0 : w0.cell? ⟨w.heap.size, 0, none⟩ = some (.int .i64 0) := blk_cell X0.out 0
  have q0_1 : w0.cell? ⟨w.heap.size, 1, none⟩ = some (.int .i32 0) := blk_cell X0.out 1
  have q0_2 : w0.cell? ⟨w.heap.size, 2, none⟩ = some (.bool false) := blk_cell X0.out 2
  have q0_3 : w0.cell? ⟨w.heap.size, 3, none⟩ = some (.slice none 0 0) := blk_cell X0.out 3
  have q0_4 : w0.cell? ⟨w.heap.size, 4, none⟩ = some (.bool false) := blk_cell X0.out 4
  have q0_5 : w0.cell? ⟨w.heap.size, 5, none⟩ = some (.slice none 0 0) := blk_cell X0.out 5
  have q0_6 : w0.cell? ⟨w.heap.size, 6, none⟩ = some (.slice none 0 0) := blk_cell X0.out 6
  refine (put_c w0 0 1 [0] t_put0 rfl).mono ?_
  clear q0_0 q0_1 q0_2 q0_3 q0_4 q0_5 q0_6
  have hz_p1 := HB.out.size
  rintro r w1 ⟨hb, A_p1, c_p1, rfl, hc_p1, hC, hO_p1⟩
  have HB := Lib.hid (HB.out.trans (hb.mono HB.out.size))
  have X0 := Lib.hid (blk_below X0.out hb)
  have HC_z := Lib.hid (Kd.C_below HC_z.out hb)
  have HC_p1 := Lib.hid hC
  clear hb hC
  have q0_0 : w1.cell? ⟨w.heap.size, 0, none⟩ = some (.int .i64 0) := blk_cell X0.out 0
  have q0_1 : w1.cell? ⟨w.heap.size, 1, none⟩ = some (.int .i32 0) := blk_cell X0.out 1
  have q0_2 : w1.cell? ⟨w.heap.size, 2, none⟩ = some (.bool false) := blk_cell X0.out 2
  have q0_3 : w1.cell? ⟨w.heap.size, 3, none⟩ = some (.slice none 0 0) := blk_cell X0.out 3
  have q0_4 : w1.cell? ⟨w.heap.size, 4, none⟩ = some (.bool false) := blk_cell X0.out 4
  have q0_5 : w1.cell? ⟨w.heap.size, 5, none⟩ = some (.slice none 0 0) := blk_cell X0.out 5
  have q0_6 : w1.cell? ⟨w.heap.size, 6, none⟩ = some (.slice none 0 0) := blk_cell X0.out 6
  go_wp2_with fail
  refine (cat_c w1 _ _ _ _ _ _ [0] [0] [0, 0] 2 HC_z.out HC_p1.out (Nat.le_refl _) hc_p1 (by kernel_rfl) rfl).mono ?_
  clear q0_0 q0_1 q0_2 q0_3 q0_4 q0_5 q0_6
  have hz_b1 := HB.out.size
  rintro r w2 ⟨hb, A_b1, c_b1, rfl, hc_b1, hC, hO_b1⟩
  have HB := Lib.hid (HB.out.trans (hb.mono HB.out.size))
  have X0 := Lib.hid (blk_below X0.out hb)
  have HC_z := Lib.hid (Kd.C_below HC_z.out hb)
  have HC_p1 := Lib.hid (Kd.C_below HC_p1.out hb)
  have HC_b1 := Lib.hid hC
  clear hb hC
  have q0_0 : w2.cell? ⟨w.heap.size, 0, none⟩ = some (.int .i64 0) := blk_cell X0.out 0
  have q0_1 : w2.cell? ⟨w.heap.size, 1, none⟩ = some (.int .i32 0) := blk_cell X0.out 1
  have q0_2 : w2.cell? ⟨w.heap.size, 2, none⟩ = some (.bool false) := blk_cell X0.out 2
  have q0_3 : w2.cell? ⟨w.heap.size, 3, none⟩ = some (.slice none 0 0) := blk_cell X0.out 3
  have q0_4 : w2.cell? ⟨w.heap.size, 4, none⟩ = some (.bool false) := blk_cell X0.out 4
  have q0_5 : w2.cell? ⟨w.heap.size, 5, none⟩ = some (.slice none 0 0) := blk_cell X0.out 5
  have q0_6 : w2.cell? ⟨w.heap.size, 6, none⟩ = some (.slice none 0 0) := blk_cell X0.out 6
  go_wp2_with fail
  clear HC_z
  clear HC_p1
  refine (put_c w2 0 1 [0] t_put0 rfl).mono ?_
  clear q0_0 q0_1 q0_2 q0_3 q0_4 q0_5 q0_6
  have hz_p2 := HB.out.size
  rintro r w3 ⟨hb, A_p2, c_p2, rfl, hc_p2, hC, hO_p2⟩
  have HB := Lib.hid (HB.out.trans (hb.mono HB.out.size))
  have X0 := Lib.hid (blk_below X0.out hb)
  have HC_b1 := Lib.hid (Kd.C_below HC_b1.out hb)
  have HC_p2 := Lib.hid hC
  clear hb hC
  have q0_0 : w3.cell? ⟨w.heap.size, 0, none⟩ = some (.int .i64 0) := blk_cell X0.out 0
  have q0_1 : w3.cell? ⟨w.heap.size, 1, none⟩ = some (.int .i32 0) := blk_cell X0.out 1
  have q0_2 : w3.cell? ⟨w.heap.size, 2, none⟩ = some (.bool false) := blk_cell X0.out 2
  have q0_3 : w3.cell? ⟨w.heap.size, 3, none⟩ = some (.slice none 0 0) := blk_cell X0.out 3
  have q0_4 : w3.cell? ⟨w.heap.size, 4, none⟩ = some (.bool false) := blk_cell X0.out 4
  have q0_5 : w3.cell? ⟨w.heap.size, 5, none⟩ = some (.slice none 0 0) := blk_cell X0.out 5
  have q0_6 : w3.cell? ⟨w.heap.size, 6, none⟩ = some (.slice none 0 0) := blk_cell X0.out 6
  go_wp2_with fail
  refine (cat_c w3 _ _ _ _ _ _ [0, 0] [0] [0, 0, 0] 3 HC_b1.out HC_p2.out hc_b1 hc_p2 (by kernel_rfl) rfl).mono ?_
  clear q0_0 q0_1 q0_2 q0_3 q0_4 q0_5 q0_6
  have hz_b2 := HB.out.size
  rintro r w4 ⟨hb, A_b2, c_b2, rfl, hc_b2, hC, hO_b2⟩
  have HB := Lib.hid (HB.out.trans (hb.mono HB.out.size))
  have X0 := Lib.hid (blk_below X0.out hb)
  have HC_b1 := Lib.hid (Kd.C_below HC_b1.out hb)
  have HC_p2 := Lib.hid (Kd.C_below HC_p2.out hb)
  have HC_b2 := Lib.hid hC
  clear hb hC
  have q0_0 : w4.cell? ⟨w.heap.size, 0, none⟩ = some (.int .i64 0) := blk_cell X0.out 0
  have q0_1 : w4.cell? ⟨w.heap.size, 1, none⟩ = some (.int .i32 0) := blk_cell X0.out 1
  have q0_2 : w4.cell? ⟨w.heap.size, 2, none⟩ = some (.bool false) := blk_cell X0.out 2
  have q0_3 : w4.cell? ⟨w.heap.size, 3, none⟩ = some (.slice none 0 0) := blk_cell X0.out 3
  have q0_4 : w4.cell? ⟨w.heap.size, 4, none⟩ = some (.bool false) := blk_cell X0.out 4
  have q0_5 : w4.cell? ⟨w.heap.size, 5, none⟩ = some (.slice none 0 0) := blk_cell X0.out 5
  have q0_6 : w4.cell? ⟨w.heap.size, 6, none⟩ = some (.slice none 0 0) := blk_cell X0.out 6
  go_wp2_with fail
  clear HC_b1
  clear HC_p2
  refine (blob_c w4 1 [0] t_blob rfl).mono ?_
  clear q0_0 q0_1 q0_2 q0_3 q0_4 q0_5 q0_6
  have hz_p3 := HB.out.size
  rintro r w5 ⟨hb, A_p3, c_p3, rfl, hc_p3, hC, hO_p3⟩
  have HB := Lib.hid (HB.out.trans (hb.mono HB.out.size))
  have X0 := Lib.hid (blk_below X0.out hb)
  have HC_b2 := Lib.hid (Kd.C_below HC_b2.out hb)
  have HC_p3 := Lib.hid hC
  clear hb hC
  have q0_0 : w5.cell? ⟨w.heap.size, 0, none⟩ = some (.int .i64 0) := blk_cell X0.out 0
  have q0_1 : w5.cell? ⟨w.heap.size, 1, none⟩ = some (.int .i32 0) := blk_cell X0.out 1
  have q0_2 : w5.cell? ⟨w.heap.size, 2, none⟩ = some (.bool false) := blk_cell X0.out 2
  have q0_3 : w5.cell? ⟨w.heap.size, 3, none⟩ = some (.slice none 0 0) := blk_cell X0.out 3
  have q0_4 : w5.cell? ⟨w.heap.size, 4, none⟩ = some (.bool false) := blk_cell X0.out 4
  have q0_5 : w5.cell? ⟨w.heap.size, 5, none⟩ = some (.slice none 0 0) := blk_cell X0.out 5
  have q0_6 : w5.cell? ⟨w.heap.size, 6, none⟩ = some (.slice none 0 0) := blk_cell X0.out 6
  go_wp2_with fail
  refine (cat_c w5 _ _ _ _ _ _ [0, 0, 0] [0] [0, 0, 0, 0] 4 HC_b2.out HC_p3.out hc_b2 hc_p3 (by kernel_rfl) rfl).mono ?_
  clear q0_0 q0_1 q0_2 q0_3 q0_4 q0_5 q0_6
  have hz_b3 := HB.out.size
  rintro r w6 ⟨hb, A_b3, c_b3, rfl, hc_b3, hC, hO_b3⟩
  have HB := Lib.hid (HB.out.trans (hb.mono HB.out.size))
  have X0 := Lib.hid (blk_below X0.out hb)
  have HC_b2 := Lib.hid (Kd.C_below HC_b2.out hb)
  have HC_p3 := Lib.hid (Kd.C_below HC_p3.out hb)
  have HC_b3 := Lib.hid hC
  clear hb hC
  have q0_0 : w6.cell? ⟨w.heap.size, 0, none⟩ = some (.int .i64 0) := blk_cell X0.out 0
  have q0_1 : w6.cell? ⟨w.heap.size, 1, none⟩ = some (.int .i32 0) := blk_cell X0.out 1
  have q0_2 : w6.cell? ⟨w.heap.size, 2, none⟩ = some (.bool false) := blk_cell X0.out 2
  have q0_3 : w6.cell? ⟨w.heap.size, 3, none⟩ = some (.slice none 0 0) := blk_cell X0.out 3
  have q0_4 : w6.cell? ⟨w.heap.size, 4, none⟩ = some (.bool false) := blk_cell X0.out 4
  have q0_5 : w6.cell? ⟨w.heap.size, 5, none⟩ = some (.slice none 0 0) := blk_cell X0.out 5
  have q0_6 : w6.cell? ⟨w.heap.size, 6, none⟩ = some (.slice none 0 0) := blk_cell X0.out 6
  go_wp2_with fail
  clear HC_b2
  clear HC_p3
  refine (blob_c w6 1 [0] t_blob rfl).mono ?_
  clear q0_0 q0_1 q0_2 q0_3 q0_4 q0_5 q0_6
  have hz_p4 := HB.out.size
  rintro r w7 ⟨hb, A_p4, c_p4, rfl, hc_p4, hC, hO_p4⟩
  have HB := Lib.hid (HB.out.trans (hb.mono HB.out.size))
  have X0 := Lib.hid (blk_below X0.out hb)
  have HC_b3 := Lib.hid (Kd.C_below HC_b3.out hb)
  have HC_p4 := Lib.hid hC
  clear hb hC
  have q0_0 : w7.cell? ⟨w.heap.size, 0, none⟩ = some (.int .i64 0) := blk_cell X0.out 0
  have q0_1 : w7.cell? ⟨w.heap.size, 1, none⟩ = some (.int .i32 0) := blk_cell X0.out 1
  have q0_2 : w7.cell? ⟨w.heap.size, 2, none⟩ = some (.bool false) := blk_cell X0.out 2
  have q0_3 : w7.cell? ⟨w.heap.size, 3, none⟩ = some (.slice none 0 0) := blk_cell X0.out 3
  have q0_4 : w7.cell? ⟨w.heap.size, 4, none⟩ = some (.bool false) := blk_cell X0.out 4
  have q0_5 : w7.cell? ⟨w.heap.size, 5, none⟩ = some (.slice none 0 0) := blk_cell X0.out 5
  have q0_6 : w7.cell? ⟨w.heap.size, 6, none⟩ = some (.slice none 0 0) := blk_cell X0.out 6
  go_wp2_with fail
  refine (cat_c w7 _ _ _ _ _ _ [0, 0, 0, 0] [0] [0, 0, 0, 0, 0] 5 HC_b3.out HC_p4.out hc_b3 hc_p4 (by kernel_rfl) rfl).mono ?_
  clear q0_0 q0_1 q0_2 q0_3 q0_4 q0_5 q0_6
  have hz_b4 := HB.out.size
  rintro r w8 ⟨hb, A_b4, c_b4, rfl, hc_b4, hC, hO_b4⟩
  have HB := Lib.hid (HB.out.trans (hb.mono HB.out.size))
  have X0 := Lib.hid (blk_below X0.out hb)
  have HC_b3 := Lib.hid (Kd.C_below HC_b3.out hb)
  have HC_p4 := Lib.hid (Kd.C_below HC_p4.out hb)
  have HC_b4 := Lib.hid hC
  clear hb hC
  have q0_0 : w8.cell? ⟨w.heap.size, 0, none⟩ = some (.int .i64 0) := blk_cell X0.out 0
  have q0_1 : w8.cell? ⟨w.heap.size, 1, none⟩ = some (.int .i32 0) := blk_cell X0.out 1
  have q0_2 : w8.cell? ⟨w.heap.size, 2, none⟩ = some (.bool false) := blk_cell X0.out 2
  have q0_3 : w8.cell? ⟨w.heap.size, 3, none⟩ = some (.slice none 0 0) := blk_cell X0.out 3
  have q0_4 : w8.cell? ⟨w.heap.size, 4, none⟩ = some (.bool false) := blk_cell X0.out 4
  have q0_5 : w8.cell? ⟨w.heap.size, 5, none⟩ = some (.slice none 0 0) := blk_cell X0.out 5
  have q0_6 : w8.cell? ⟨w.heap.size, 6, none⟩ = some (.slice none 0 0) := blk_cell X0.out 6
  go_wp2_with fail
  clear HC_b3
  clear HC_p4
  refine (put_c w8 0 1 [0] t_put0 rfl).mono ?_
  clear q0_0 q0_1 q0_2 q0_3 q0_4 q0_5 q0_6
  have hz_p5 := HB.out.size
  rintro r w9 ⟨hb, A_p5, c_p5, rfl, hc_p5, hC, hO_p5⟩
  have HB := Lib.hid (HB.out.trans (hb.mono HB.out.size))
  have X0 := Lib.hid (blk_below X0.out hb)
  have HC_b4 := Lib.hid (Kd.C_below HC_b4.out hb)
  have HC_p5 := Lib.hid hC
  clear hb hC
  have q0_0 : w9.cell? ⟨w.heap.size, 0, none⟩ = some (.int .i64 0) := blk_cell X0.out 0
  have q0_1 : w9.cell? ⟨w.heap.size, 1, none⟩ = some (.int .i32 0) := blk_cell X0.out 1
  have q0_2 : w9.cell? ⟨w.heap.size, 2, none⟩ = some (.bool false) := blk_cell X0.out 2
  have q0_3 : w9.cell? ⟨w.heap.size, 3, none⟩ = some (.slice none 0 0) := blk_cell X0.out 3
  have q0_4 : w9.cell? ⟨w.heap.size, 4, none⟩ = some (.bool false) := blk_cell X0.out 4
  have q0_5 : w9.cell? ⟨w.heap.size, 5, none⟩ = some (.slice none 0 0) := blk_cell X0.out 5
  have q0_6 : w9.cell? ⟨w.heap.size, 6, none⟩ = some (.slice none 0 0) := blk_cell X0.out 6
  go_wp2_with fail
  refine (cat_c w9 _ _ _ _ _ _ [0, 0, 0, 0, 0] [0] [0, 0, 0, 0, 0, 0] 6 HC_b4.out HC_p5.out hc_b4 hc_p5 (by kernel_rfl) rfl).mono ?_
  clear q0_0 q0_1 q0_2 q0_3 q0_4 q0_5 q0_6
  have hz_b5 := HB.out.size
  rintro r w10 ⟨hb, A_b5, c_b5, rfl, hc_b5, hC, hO_b5⟩
  have HB := Lib.hid (HB.out.trans (hb.mono HB.out.size))
  have X0 := Lib.hid (blk_below X0.out hb)
  have HC_b4 := Lib.hid (Kd.C_below HC_b4.out hb)
  have HC_p5 := Lib.hid (Kd.C_below HC_p5.out hb)
  have HC_b5 := Lib.hid hC
  clear hb hC
  have q0_0 : w10.cell? ⟨w.heap.size, 0, none⟩ = some (.int .i64 0) := blk_cell X0.out 0
  have q0_1 : w10.cell? ⟨w.heap.size, 1, none⟩ = some (.int .i32 0) := blk_cell X0.out 1
  have q0_2 : w10.cell? ⟨w.heap.size, 2, none⟩ = some (.bool false) := blk_cell X0.out 2
  have q0_3 : w10.cell? ⟨w.heap.size, 3, none⟩ = some (.slice none 0 0) := blk_cell X0.out 3
  have q0_4 : w10.cell? ⟨w.heap.size, 4, none⟩ = some (.bool false) := blk_cell X0.out 4
  have q0_5 : w10.cell? ⟨w.heap.size, 5, none⟩ = some (.slice none 0 0) := blk_cell X0.out 5
  have q0_6 : w10.cell? ⟨w.heap.size, 6, none⟩ = some (.slice none 0 0) := blk_cell X0.out 6
  go_wp2_with fail
  clear HC_b4
  clear HC_p5
  refine wp_loop_rounds 1 ?_
  rw [rounds_succ]
  go_wp2_with fail
  go_ret
  exact ⟨HB.out, _, _, rfl, hc_b5, HC_b5.out, fun k hk => Nat.le_trans hz_b5 (hO_b5 k hk)⟩

set_option maxRecDepth 100000 in
theorem check07_one (w : World) : Calls Tryz.prog 231 #[rowAgg] w fun e w' => Below w.heap.size w w' ∧ e = .returned (.int .i64 0) := by
  have HB : Hid (Below w.heap.size w (w.alloc (.cells #[.int .i64 0, .int .i32 0, .bool false, .slice none 0 0, .bool false, .slice none 0 0, .slice none 0 0] 236))) := (Below.refl _ _).alloc (Nat.le_refl _) _
  have X0 : Hid ((w.alloc (.cells #[.int .i64 0, .int .i32 0, .bool false, .slice none 0 0, .bool false, .slice none 0 0, .slice none 0 0] 236)).heap[w.heap.size]? = some (.cells #[.int .i64 0, .int .i32 0, .bool false, .slice none 0 0, .bool false, .slice none 0 0, .slice none 0 0] 236 (0, 0))) := blk_new _ _
  go_enter Tryz.func231, Tryz.ntmps231
  go_wp2_with fail
  generalize w.alloc (.cells #[.int .i64 0, .int .i32 0, .bool false, .slice none 0 0, .bool false, .slice none 0 0, .slice none 0 0] 236) = w0 at *
  have q0_0 : w0.cell? ⟨w.heap.size, 0, none⟩ = some (.int .i64 0) := blk_cell X0.out 0
  have q0_1 : w0.cell? ⟨w.heap.size, 1, none⟩ = some (.int .i32 0) := blk_cell X0.out 1
  have q0_2 : w0.cell? ⟨w.heap.size, 2, none⟩ = some (.bool false) := blk_cell X0.out 2
  have q0_3 : w0.cell? ⟨w.heap.size, 3, none⟩ = some (.slice none 0 0) := blk_cell X0.out 3
  have q0_4 : w0.cell? ⟨w.heap.size, 4, none⟩ = some (.bool false) := blk_cell X0.out 4
  have q0_5 : w0.cell? ⟨w.heap.size, 5, none⟩ = some (.slice none 0 0) := blk_cell X0.out 5
  have q0_6 : w0.cell? ⟨w.heap.size, 6, none⟩ = some (.slice none 0 0) := blk_cell X0.out 6
  refine (badblob_c w0).mono ?_
  clear q0_0 q0_1 q0_2 q0_3 q0_4 q0_5 q0_6
  rintro r w1 ⟨hb, rfl⟩
  have HB := Lib.hid (HB.out.trans (hb.mono HB.out.size))
  have X0 := Lib.hid (blk_below X0.out hb)
  clear hb
  have q0_0 : w1.cell? ⟨w.heap.size, 0, none⟩ = some (.int .i64 0) := blk_cell X0.out 0
  have q0_1 : w1.cell? ⟨w.heap.size, 1, none⟩ = some (.int .i32 0) := blk_cell X0.out 1
  have q0_2 : w1.cell? ⟨w.heap.size, 2, none⟩ = some (.bool false) := blk_cell X0.out 2
  have q0_3 : w1.cell? ⟨w.heap.size, 3, none⟩ = some (.slice none 0 0) := blk_cell X0.out 3
  have q0_4 : w1.cell? ⟨w.heap.size, 4, none⟩ = some (.bool false) := blk_cell X0.out 4
  have q0_5 : w1.cell? ⟨w.heap.size, 5, none⟩ = some (.slice none 0 0) := blk_cell X0.out 5
  have q0_6 : w1.cell? ⟨w.heap.size, 6, none⟩ = some (.slice none 0 0) := blk_cell X0.out 6
  go_wp2_with fail
  refine (badblob_c w1).mono ?_
  clear q0_0 q0_1 q0_2 q0_3 q0_4 q0_5 q0_6
  rintro r w2 ⟨hb, rfl⟩
  have HB := Lib.hid (HB.out.trans (hb.mono HB.out.size))
  have X0 := Lib.hid (blk_below X0.out hb)
  clear hb
  have q0_0 : w2.cell? ⟨w.heap.size, 0, none⟩ = some (.int .i64 0) := blk_cell X0.out 0
  have q0_1 : w2.cell? ⟨w.heap.size, 1, none⟩ = some (.int .i32 0) := blk_cell X0.out 1
  have q0_2 : w2.cell? ⟨w.heap.size, 2, none⟩ = some (.bool false) := blk_cell X0.out 2
  have q0_3 : w2.cell? ⟨w.heap.size, 3, none⟩ = some (.slice none 0 0) := blk_cell X0.out 3
  have q0_4 : w2.cell? ⟨w.heap.size, 4, none⟩ = some (.bool false) := blk_cell X0.out 4
  have q0_5 : w2.cell? ⟨w.heap.size, 5, none⟩ = some (.slice none 0 0) := blk_cell X0.out 5
  have q0_6 : w2.cell? ⟨w.heap.size, 6, none⟩ = some (.slice none 0 0) := blk_cell X0.out 6
  go_wp2_with fail
  refine wp_loop_rounds 1 ?_
  rw [rounds_succ]
  go_wp2_with fail
  refine (body_one w2).mono ?_
  clear q0_0 q0_1 q0_2 q0_3 q0_4 q0_5 q0_6
  have hz_b := HB.out.size
  rintro r w3 ⟨hb, A_b, c_b, rfl, hc_b, hC, hO_b⟩
  have HB := Lib.hid (HB.out.trans (hb.mono HB.out.size))
  have X0 := Lib.hid (blk_below X0.out hb)
  have HC_b := Lib.hid hC
  clear hb hC
  have q0_0 : w3.cell? ⟨w.heap.size, 0, none⟩ = some (.int .i64 0) := blk_cell X0.out 0
  have q0_1 : w3.cell? ⟨w.heap.size, 1, none⟩ = some (.int .i32 0) := blk_cell X0.out 1
  have q0_2 : w3.cell? ⟨w.heap.size, 2, none⟩ = some (.bool false) := blk_cell X0.out 2
  have q0_3 : w3.cell? ⟨w.heap.size, 3, none⟩ = some (.slice none 0 0) := blk_cell X0.out 3
  have q0_4 : w3.cell? ⟨w.heap.size, 4, none⟩ = some (.bool false) := blk_cell X0.out 4
  have q0_5 : w3.cell? ⟨w.heap.size, 5, none⟩ = some (.slice none 0 0) := blk_cell X0.out 5
  have q0_6 : w3.cell? ⟨w.heap.size, 6, none⟩ = some (.slice none 0 0) := blk_cell X0.out 6
  go_wp2_with fail
  go_ret
  exact ⟨HB.out, rfl⟩

set_option maxRecDepth 100000 in
theorem put_one (w : World) : Calls Tryz.prog 182 #[rowAgg] w fun e w' => Below w.heap.size w w' ∧ ∃ A c, e = .returned (.tuple #[.slice A 7 c, .int .i64 0]) ∧ 7 ≤ c ∧ CB w' A 7 [12, 0, 0, 0, 0, 0, 0] ∧ ∀ k, (Value.slice A 7 c).ownBlock = some k → w.heap.size ≤ k := by
  have HB : Hid (Below w.heap.size w (w.alloc (.cells #[.int .i64 0, .int .i32 0, .bool false, .slice none 0 0, .bool false, .slice none 0 0, .slice none 0 0] 236))) := (Below.refl _ _).alloc (Nat.le_refl _) _
  have X0 : Hid ((w.alloc (.cells #[.int .i64 0, .int .i32 0, .bool false, .slice none 0 0, .bool false, .slice none 0 0, .slice none 0 0] 236)).heap[w.heap.size]? = some (.cells #[.int .i64 0, .int .i32 0, .bool false, .slice none 0 0, .bool false, .slice none 0 0, .slice none 0 0] 236 (0, 0))) := blk_new _ _
  go_enter Tryz.func182, Tryz.ntmps182
  go_wp2_with fail
  generalize w.alloc (.cells #[.int .i64 0, .int .i32 0, .bool false, .slice none 0 0, .bool false, .slice none 0 0, .slice none 0 0] 236) = w0 at *
  have q0_0 : w0.cell? ⟨w.heap.size, 0, none⟩ = some (.int .i64 0) := blk_cell X0.out 0
  have q0_1 : w0.cell? ⟨w.heap.size, 1, none⟩ = some (.int .i32 0) := blk_cell X0.out 1
  have q0_2 : w0.cell? ⟨w.heap.size, 2, none⟩ = some (.bool false) := blk_cell X0.out 2
  have q0_3 : w0.cell? ⟨w.heap.size, 3, none⟩ = some (.slice none 0 0) := blk_cell X0.out 3
  have q0_4 : w0.cell? ⟨w.heap.size, 4, none⟩ = some (.bool false) := blk_cell X0.out 4
  have q0_5 : w0.cell? ⟨w.heap.size, 5, none⟩ = some (.slice none 0 0) := blk_cell X0.out 5
  have q0_6 : w0.cell? ⟨w.heap.size, 6, none⟩ = some (.slice none 0 0) := blk_cell X0.out 6
  refine (check07_one w0).mono ?_
  clear q0_0 q0_1 q0_2 q0_3 q0_4 q0_5 q0_6
  rintro r w1 ⟨hb, rfl⟩
  have HB := Lib.hid (HB.out.trans (hb.mono HB.out.size))
  have X0 := Lib.hid (blk_below X0.out hb)
  clear hb
  have q0_0 : w1.cell? ⟨w.heap.size, 0, none⟩ = some (.int .i64 0) := blk_cell X0.out 0
  have q0_1 : w1.cell? ⟨w.heap.size, 1, none⟩ = some (.int .i32 0) := blk_cell X0.out 1
  have q0_2 : w1.cell? ⟨w.heap.size, 2, none⟩ = some (.bool false) := blk_cell X0.out 2
  have q0_3 : w1.cell? ⟨w.heap.size, 3, none⟩ = some (.slice none 0 0) := blk_cell X0.out 3
  have q0_4 : w1.cell? ⟨w.heap.size, 4, none⟩ = some (.bool false) := blk_cell X0.out 4
  have q0_5 : w1.cell? ⟨w.heap.size, 5, none⟩ = some (.slice none 0 0) := blk_cell X0.out 5
  have q0_6 : w1.cell? ⟨w.heap.size, 6, none⟩ = some (.slice none 0 0) := blk_cell X0.out 6
  go_wp2_with fail
  refine (body_one w1).mono ?_
  clear q0_0 q0_1 q0_2 q0_3 q0_4 q0_5 q0_6
  have hz_b := HB.out.size
  rintro r w2 ⟨hb, A_b, c_b, rfl, hc_b, hC, hO_b⟩
  have HB := Lib.hid (HB.out.trans (hb.mono HB.out.size))
  have X0 := Lib.hid (blk_below X0.out hb)
  have HC_b := Lib.hid hC
  clear hb hC
  have q0_0 : w2.cell? ⟨w.heap.size, 0, none⟩ = some (.int .i64 0) := blk_cell X0.out 0
  have q0_1 : w2.cell? ⟨w.heap.size, 1, none⟩ = some (.int .i32 0) := blk_cell X0.out 1
  have q0_2 : w2.cell? ⟨w.heap.size, 2, none⟩ = some (.bool false) := blk_cell X0.out 2
  have q0_3 : w2.cell? ⟨w.heap.size, 3, none⟩ = some (.slice none 0 0) := blk_cell X0.out 3
  have q0_4 : w2.cell? ⟨w.heap.size, 4, none⟩ = some (.bool false) := blk_cell X0.out 4
  have q0_5 : w2.cell? ⟨w.heap.size, 5, none⟩ = some (.slice none 0 0) := blk_cell X0.out 5
  have q0_6 : w2.cell? ⟨w.heap.size, 6, none⟩ = some (.slice none 0 0) := blk_cell X0.out 6
  go_wp2_with fail
  refine (put_c w2 6 1 [12] t_put6 rfl).mono ?_
  clear q0_0 q0_1 q0_2 q0_3 q0_4 q0_5 q0_6
  have hz_n := HB.out.size
  rintro r w3 ⟨hb, A_n, c_n, rfl, hc_n, hC, hO_n⟩
  have HB := Lib.hid (HB.out.trans (hb.mono HB.out.size))
  have X0 := Lib.hid (blk_below X0.out hb)
  have HC_b := Lib.hid (Kd.C_below HC_b.out hb)
  have HC_n := Lib.hid hC
  clear hb hC
  have q0_0 : w3.cell? ⟨w.heap.size, 0, none⟩ = some (.int .i64 0) := blk_cell X0.out 0
  have q0_1 : w3.cell? ⟨w.heap.size, 1, none⟩ = some (.int .i32 0) := blk_cell X0.out 1
  have q0_2 : w3.cell? ⟨w.heap.size, 2, none⟩ = some (.bool false) := blk_cell X0.out 2
  have q0_3 : w3.cell? ⟨w.heap.size, 3, none⟩ = some (.slice none 0 0) := blk_cell X0.out 3
  have q0_4 : w3.cell? ⟨w.heap.size, 4, none⟩ = some (.bool false) := blk_cell X0.out 4
  have q0_5 : w3.cell? ⟨w.heap.size, 5, none⟩ = some (.slice none 0 0) := blk_cell X0.out 5
  have q0_6 : w3.cell? ⟨w.heap.size, 6, none⟩ = some (.slice none 0 0) := blk_cell X0.out 6
  go_wp2_with fail
  refine (cat_c w3 _ _ _ _ _ _ [12] [0, 0, 0, 0, 0, 0] [12, 0, 0, 0, 0, 0, 0] 7 HC_n.out HC_b.out hc_n hc_b (by kernel_rfl) rfl).mono ?_
  clear q0_0 q0_1 q0_2 q0_3 q0_4 q0_5 q0_6
  have hz_r := HB.out.size
  rintro r w4 ⟨hb, A_r, c_r, rfl, hc_r, hC, hO_r⟩
  have HB := Lib.hid (HB.out.trans (hb.mono HB.out.size))
  have X0 := Lib.hid (blk_below X0.out hb)
  have HC_b := Lib.hid (Kd.C_below HC_b.out hb)
  have HC_n := Lib.hid (Kd.C_below HC_n.out hb)
  have HC_r := Lib.hid hC
  clear hb hC
  have q0_0 : w4.cell? ⟨w.heap.size, 0, none⟩ = some (.int .i64 0) := blk_cell X0.out 0
  have q0_1 : w4.cell? ⟨w.heap.size, 1, none⟩ = some (.int .i32 0) := blk_cell X0.out 1
  have q0_2 : w4.cell? ⟨w.heap.size, 2, none⟩ = some (.bool false) := blk_cell X0.out 2
  have q0_3 : w4.cell? ⟨w.heap.size, 3, none⟩ = some (.slice none 0 0) := blk_cell X0.out 3
  have q0_4 : w4.cell? ⟨w.heap.size, 4, none⟩ = some (.bool false) := blk_cell X0.out 4
  have q0_5 : w4.cell? ⟨w.heap.size, 5, none⟩ = some (.slice none 0 0) := blk_cell X0.out 5
  have q0_6 : w4.cell? ⟨w.heap.size, 6, none⟩ = some (.slice none 0 0) := blk_cell X0.out 6
  go_wp2_with fail
  clear HC_n
  clear HC_b
  go_ret2
  exact ⟨HB.out, _, _, rfl, hc_r, HC_r.out, fun k hk => Nat.le_trans hz_r (hO_r k hk)⟩

end Go.Proofs.YtciikcmiiebfpaaGreatDoor
end
