/- The reference's Check and Encode of the batch of one record; Encode of the set; the law's one. Printed by gen_enc.py. -/
import Derived.Test.YtciikcmiiebfpaaGreatDoorEncR
namespace Go.Proofs.YtciikcmiiebfpaaGreatDoor
open Go Go.RowKit Go.Maps Go.Proofs.YtciikcmiiebfpaaGreatDoorW.PrintWords Go.Proofs.YtciikcmiiebfpaaGreatDoor.PTopicsGets Go.Proofs.YtciikcmiiebfpaaGreatDoorW.PrintMore
set_option linter.unusedVariables false
set_option linter.unusedSimpArgs false

set_option maxRecDepth 100000 in
set_option maxHeartbeats 2000000 in
theorem check08_one (w : World) (rb : Nat) (hr : w.heap[rb]? = some (.cells recOne 118 (0, 0))) : Calls Tryz.prog 80 #[batAgg rb] w fun e w' => Below w.heap.size w w' ∧ e = .returned (.int .i64 0) := by
  have HB : Hid (Below w.heap.size w (w.alloc (.cells #[.int .i64 0, .int .i32 0, .int .i64 (-1), .int .i16 (-1), .int .i32 (-1), .slice (some ⟨rb, 0, none⟩) 1 1] 95))) := (Below.refl _ _).alloc (Nat.le_refl _) _
  have X0 : Hid ((w.alloc (.cells #[.int .i64 0, .int .i32 0, .int .i64 (-1), .int .i16 (-1), .int .i32 (-1), .slice (some ⟨rb, 0, none⟩) 1 1] 95)).heap[w.heap.size]? = some (.cells #[.int .i64 0, .int .i32 0, .int .i64 (-1), .int .i16 (-1), .int .i32 (-1), .slice (some ⟨rb, 0, none⟩) 1 1] 95 (0, 0))) := blk_new _ _
  have X1 := Lib.hid (blk_below hr HB.out)
  clear hr
  simp only [recOne] at X1
  go_enter Tryz.func80, Tryz.ntmps80
  go_wp2_with fail
  generalize w.alloc (.cells #[.int .i64 0, .int .i32 0, .int .i64 (-1), .int .i16 (-1), .int .i32 (-1), .slice (some ⟨rb, 0, none⟩) 1 1] 95) = w0 at *
  have q0_0 : w0.cell? ⟨w.heap.size, 0, none⟩ = some (.int .i64 0) := blk_cell X0.out 0
  have q0_1 : w0.cell? ⟨w.heap.size, 1, none⟩ = some (.int .i32 0) := blk_cell X0.out 1
  have q0_2 : w0.cell? ⟨w.heap.size, 2, none⟩ = some (.int .i64 (-1)) := blk_cell X0.out 2
  have q0_3 : w0.cell? ⟨w.heap.size, 3, none⟩ = some (.int .i16 (-1)) := blk_cell X0.out 3
  have q0_4 : w0.cell? ⟨w.heap.size, 4, none⟩ = some (.int .i32 (-1)) := blk_cell X0.out 4
  have q0_5 : w0.cell? ⟨w.heap.size, 5, none⟩ = some (.slice (some ⟨rb, 0, none⟩) 1 1) := blk_cell X0.out 5
  have q1_0 : w0.cell? ⟨rb, 0, none⟩ = some (.int .i64 7) := blk_cell X1.out 0
  have q1_1 : w0.cell? ⟨rb, 1, none⟩ = some (.bool false) := blk_cell X1.out 1
  have q1_2 : w0.cell? ⟨rb, 2, none⟩ = some (.slice none 0 0) := blk_cell X1.out 2
  have q1_3 : w0.cell? ⟨rb, 3, none⟩ = some (.bool false) := blk_cell X1.out 3
  have q1_4 : w0.cell? ⟨rb, 4, none⟩ = some (.slice none 0 0) := blk_cell X1.out 4
  have q1_5 : w0.cell? ⟨rb, 5, none⟩ = some (.slice none 0 0) := blk_cell X1.out 5
  go_wp2_with fail
  refine (prod_c w0).mono ?_
  clear q0_0 q0_1 q0_2 q0_3 q0_4 q0_5 q1_0 q1_1 q1_2 q1_3 q1_4 q1_5
  rintro r w1 ⟨hb, rfl⟩
  have HB := Lib.hid (HB.out.trans (hb.mono HB.out.size))
  have X0 := Lib.hid (blk_below X0.out hb)
  have X1 := Lib.hid (blk_below X1.out hb)
  clear hb
  have q0_0 : w1.cell? ⟨w.heap.size, 0, none⟩ = some (.int .i64 0) := blk_cell X0.out 0
  have q0_1 : w1.cell? ⟨w.heap.size, 1, none⟩ = some (.int .i32 0) := blk_cell X0.out 1
  have q0_2 : w1.cell? ⟨w.heap.size, 2, none⟩ = some (.int .i64 (-1)) := blk_cell X0.out 2
  have q0_3 : w1.cell? ⟨w.heap.size, 3, none⟩ = some (.int .i16 (-1)) := blk_cell X0.out 3
  have q0_4 : w1.cell? ⟨w.heap.size, 4, none⟩ = some (.int .i32 (-1)) := blk_cell X0.out 4
  have q0_5 : w1.cell? ⟨w.heap.size, 5, none⟩ = some (.slice (some ⟨rb, 0, none⟩) 1 1) := blk_cell X0.out 5
  have q1_0 : w1.cell? ⟨rb, 0, none⟩ = some (.int .i64 7) := blk_cell X1.out 0
  have q1_1 : w1.cell? ⟨rb, 1, none⟩ = some (.bool false) := blk_cell X1.out 1
  have q1_2 : w1.cell? ⟨rb, 2, none⟩ = some (.slice none 0 0) := blk_cell X1.out 2
  have q1_3 : w1.cell? ⟨rb, 3, none⟩ = some (.bool false) := blk_cell X1.out 3
  have q1_4 : w1.cell? ⟨rb, 4, none⟩ = some (.slice none 0 0) := blk_cell X1.out 4
  have q1_5 : w1.cell? ⟨rb, 5, none⟩ = some (.slice none 0 0) := blk_cell X1.out 5
  go_wp2_with fail
  refine (rows_one w1 rb X1.out).mono ?_
  clear q0_0 q0_1 q0_2 q0_3 q0_4 q0_5 q1_0 q1_1 q1_2 q1_3 q1_4 q1_5
  rintro r w2 ⟨hb, A_b, c_b, rfl, hc_b, hC⟩
  have HB := Lib.hid (HB.out.trans (hb.mono HB.out.size))
  have X0 := Lib.hid (blk_below X0.out hb)
  have X1 := Lib.hid (blk_below X1.out hb)
  have HC_b := Lib.hid hC
  clear hb hC
  have q0_0 : w2.cell? ⟨w.heap.size, 0, none⟩ = some (.int .i64 0) := blk_cell X0.out 0
  have q0_1 : w2.cell? ⟨w.heap.size, 1, none⟩ = some (.int .i32 0) := blk_cell X0.out 1
  have q0_2 : w2.cell? ⟨w.heap.size, 2, none⟩ = some (.int .i64 (-1)) := blk_cell X0.out 2
  have q0_3 : w2.cell? ⟨w.heap.size, 3, none⟩ = some (.int .i16 (-1)) := blk_cell X0.out 3
  have q0_4 : w2.cell? ⟨w.heap.size, 4, none⟩ = some (.int .i32 (-1)) := blk_cell X0.out 4
  have q0_5 : w2.cell? ⟨w.heap.size, 5, none⟩ = some (.slice (some ⟨rb, 0, none⟩) 1 1) := blk_cell X0.out 5
  have q1_0 : w2.cell? ⟨rb, 0, none⟩ = some (.int .i64 7) := blk_cell X1.out 0
  have q1_1 : w2.cell? ⟨rb, 1, none⟩ = some (.bool false) := blk_cell X1.out 1
  have q1_2 : w2.cell? ⟨rb, 2, none⟩ = some (.slice none 0 0) := blk_cell X1.out 2
  have q1_3 : w2.cell? ⟨rb, 3, none⟩ = some (.bool false) := blk_cell X1.out 3
  have q1_4 : w2.cell? ⟨rb, 4, none⟩ = some (.slice none 0 0) := blk_cell X1.out 4
  have q1_5 : w2.cell? ⟨rb, 5, none⟩ = some (.slice none 0 0) := blk_cell X1.out 5
  go_wp2_with fail
  go_ret
  exact ⟨HB.out, rfl⟩

set_option maxRecDepth 100000 in
set_option maxHeartbeats 8000000 in
theorem enc08_one (w : World) (rb : Nat) (hr : w.heap[rb]? = some (.cells recOne 118 (0, 0))) : Calls Tryz.prog 82 #[batAgg rb, .bool false] w fun e w' => Below w.heap.size w w' ∧ ∃ A c, e = .returned (.tuple #[.slice A 68 c, .int .i64 0]) ∧ 68 ≤ c ∧ CB w' A 68 oneB := by
  have HB : Hid (Below w.heap.size w (w.alloc (.cells #[.int .i64 0, .int .i32 0, .int .i64 (-1), .int .i16 (-1), .int .i32 (-1), .slice (some ⟨rb, 0, none⟩) 1 1] 95))) := (Below.refl _ _).alloc (Nat.le_refl _) _
  have X0 : Hid ((w.alloc (.cells #[.int .i64 0, .int .i32 0, .int .i64 (-1), .int .i16 (-1), .int .i32 (-1), .slice (some ⟨rb, 0, none⟩) 1 1] 95)).heap[w.heap.size]? = some (.cells #[.int .i64 0, .int .i32 0, .int .i64 (-1), .int .i16 (-1), .int .i32 (-1), .slice (some ⟨rb, 0, none⟩) 1 1] 95 (0, 0))) := blk_new _ _
  have X1 := Lib.hid (blk_below hr HB.out)
  clear hr
  simp only [recOne] at X1
  go_enter Tryz.func82, Tryz.ntmps82
  go_wp2_with fail
  generalize w.alloc (.cells #[.int .i64 0, .int .i32 0, .int .i64 (-1), .int .i16 (-1), .int .i32 (-1), .slice (some ⟨rb, 0, none⟩) 1 1] 95) = w0 at *
  have q0_0 : w0.cell? ⟨w.heap.size, 0, none⟩ = some (.int .i64 0) := blk_cell X0.out 0
  have q0_1 : w0.cell? ⟨w.heap.size, 1, none⟩ = some (.int .i32 0) := blk_cell X0.out 1
  have q0_2 : w0.cell? ⟨w.heap.size, 2, none⟩ = some (.int .i64 (-1)) := blk_cell X0.out 2
  have q0_3 : w0.cell? ⟨w.heap.size, 3, none⟩ = some (.int .i16 (-1)) := blk_cell X0.out 3
  have q0_4 : w0.cell? ⟨w.heap.size, 4, none⟩ = some (.int .i32 (-1)) := blk_cell X0.out 4
  have q0_5 : w0.cell? ⟨w.heap.size, 5, none⟩ = some (.slice (some ⟨rb, 0, none⟩) 1 1) := blk_cell X0.out 5
  have q1_0 : w0.cell? ⟨rb, 0, none⟩ = some (.int .i64 7) := blk_cell X1.out 0
  have q1_1 : w0.cell? ⟨rb, 1, none⟩ = some (.bool false) := blk_cell X1.out 1
  have q1_2 : w0.cell? ⟨rb, 2, none⟩ = some (.slice none 0 0) := blk_cell X1.out 2
  have q1_3 : w0.cell? ⟨rb, 3, none⟩ = some (.bool false) := blk_cell X1.out 3
  have q1_4 : w0.cell? ⟨rb, 4, none⟩ = some (.slice none 0 0) := blk_cell X1.out 4
  have q1_5 : w0.cell? ⟨rb, 5, none⟩ = some (.slice none 0 0) := blk_cell X1.out 5
  go_wp2_with fail
  refine (check08_one w0 rb X1.out).mono ?_
  clear q0_0 q0_1 q0_2 q0_3 q0_4 q0_5 q1_0 q1_1 q1_2 q1_3 q1_4 q1_5
  rintro r w1 ⟨hb, rfl⟩
  have HB := Lib.hid (HB.out.trans (hb.mono HB.out.size))
  have X0 := Lib.hid (blk_below X0.out hb)
  have X1 := Lib.hid (blk_below X1.out hb)
  clear hb
  have q0_0 : w1.cell? ⟨w.heap.size, 0, none⟩ = some (.int .i64 0) := blk_cell X0.out 0
  have q0_1 : w1.cell? ⟨w.heap.size, 1, none⟩ = some (.int .i32 0) := blk_cell X0.out 1
  have q0_2 : w1.cell? ⟨w.heap.size, 2, none⟩ = some (.int .i64 (-1)) := blk_cell X0.out 2
  have q0_3 : w1.cell? ⟨w.heap.size, 3, none⟩ = some (.int .i16 (-1)) := blk_cell X0.out 3
  have q0_4 : w1.cell? ⟨w.heap.size, 4, none⟩ = some (.int .i32 (-1)) := blk_cell X0.out 4
  have q0_5 : w1.cell? ⟨w.heap.size, 5, none⟩ = some (.slice (some ⟨rb, 0, none⟩) 1 1) := blk_cell X0.out 5
  have q1_0 : w1.cell? ⟨rb, 0, none⟩ = some (.int .i64 7) := blk_cell X1.out 0
  have q1_1 : w1.cell? ⟨rb, 1, none⟩ = some (.bool false) := blk_cell X1.out 1
  have q1_2 : w1.cell? ⟨rb, 2, none⟩ = some (.slice none 0 0) := blk_cell X1.out 2
  have q1_3 : w1.cell? ⟨rb, 3, none⟩ = some (.bool false) := blk_cell X1.out 3
  have q1_4 : w1.cell? ⟨rb, 4, none⟩ = some (.slice none 0 0) := blk_cell X1.out 4
  have q1_5 : w1.cell? ⟨rb, 5, none⟩ = some (.slice none 0 0) := blk_cell X1.out 5
  go_wp2_with fail
  refine (rows_one w1 rb X1.out).mono ?_
  clear q0_0 q0_1 q0_2 q0_3 q0_4 q0_5 q1_0 q1_1 q1_2 q1_3 q1_4 q1_5
  rintro r w2 ⟨hb, A_blk, c_blk, rfl, hc_blk, hC⟩
  have HB := Lib.hid (HB.out.trans (hb.mono HB.out.size))
  have X0 := Lib.hid (blk_below X0.out hb)
  have X1 := Lib.hid (blk_below X1.out hb)
  have HC_blk := Lib.hid hC
  clear hb hC
  have q0_0 : w2.cell? ⟨w.heap.size, 0, none⟩ = some (.int .i64 0) := blk_cell X0.out 0
  have q0_1 : w2.cell? ⟨w.heap.size, 1, none⟩ = some (.int .i32 0) := blk_cell X0.out 1
  have q0_2 : w2.cell? ⟨w.heap.size, 2, none⟩ = some (.int .i64 (-1)) := blk_cell X0.out 2
  have q0_3 : w2.cell? ⟨w.heap.size, 3, none⟩ = some (.int .i16 (-1)) := blk_cell X0.out 3
  have q0_4 : w2.cell? ⟨w.heap.size, 4, none⟩ = some (.int .i32 (-1)) := blk_cell X0.out 4
  have q0_5 : w2.cell? ⟨w.heap.size, 5, none⟩ = some (.slice (some ⟨rb, 0, none⟩) 1 1) := blk_cell X0.out 5
  have q1_0 : w2.cell? ⟨rb, 0, none⟩ = some (.int .i64 7) := blk_cell X1.out 0
  have q1_1 : w2.cell? ⟨rb, 1, none⟩ = some (.bool false) := blk_cell X1.out 1
  have q1_2 : w2.cell? ⟨rb, 2, none⟩ = some (.slice none 0 0) := blk_cell X1.out 2
  have q1_3 : w2.cell? ⟨rb, 3, none⟩ = some (.bool false) := blk_cell X1.out 3
  have q1_4 : w2.cell? ⟨rb, 4, none⟩ = some (.slice none 0 0) := blk_cell X1.out 4
  have q1_5 : w2.cell? ⟨rb, 5, none⟩ = some (.slice none 0 0) := blk_cell X1.out 5
  go_wp2_with fail
  refine (dig_c w2 0 2 2 [0, 0] (by kernel_rfl) rfl).mono ?_
  clear q0_0 q0_1 q0_2 q0_3 q0_4 q0_5 q1_0 q1_1 q1_2 q1_3 q1_4 q1_5
  have hz_t1 := HB.out.size
  rintro r w3 ⟨hb, A_t1, c_t1, rfl, hc_t1, hC, hO_t1⟩
  have HB := Lib.hid (HB.out.trans (hb.mono HB.out.size))
  have X0 := Lib.hid (blk_below X0.out hb)
  have X1 := Lib.hid (blk_below X1.out hb)
  have HC_blk := Lib.hid (Kd.C_below HC_blk.out hb)
  have HC_t1 := Lib.hid hC
  clear hb hC
  have q0_0 : w3.cell? ⟨w.heap.size, 0, none⟩ = some (.int .i64 0) := blk_cell X0.out 0
  have q0_1 : w3.cell? ⟨w.heap.size, 1, none⟩ = some (.int .i32 0) := blk_cell X0.out 1
  have q0_2 : w3.cell? ⟨w.heap.size, 2, none⟩ = some (.int .i64 (-1)) := blk_cell X0.out 2
  have q0_3 : w3.cell? ⟨w.heap.size, 3, none⟩ = some (.int .i16 (-1)) := blk_cell X0.out 3
  have q0_4 : w3.cell? ⟨w.heap.size, 4, none⟩ = some (.int .i32 (-1)) := blk_cell X0.out 4
  have q0_5 : w3.cell? ⟨w.heap.size, 5, none⟩ = some (.slice (some ⟨rb, 0, none⟩) 1 1) := blk_cell X0.out 5
  have q1_0 : w3.cell? ⟨rb, 0, none⟩ = some (.int .i64 7) := blk_cell X1.out 0
  have q1_1 : w3.cell? ⟨rb, 1, none⟩ = some (.bool false) := blk_cell X1.out 1
  have q1_2 : w3.cell? ⟨rb, 2, none⟩ = some (.slice none 0 0) := blk_cell X1.out 2
  have q1_3 : w3.cell? ⟨rb, 3, none⟩ = some (.bool false) := blk_cell X1.out 3
  have q1_4 : w3.cell? ⟨rb, 4, none⟩ = some (.slice none 0 0) := blk_cell X1.out 4
  have q1_5 : w3.cell? ⟨rb, 5, none⟩ = some (.slice none 0 0) := blk_cell X1.out 5
  go_wp2_with fail
  refine (dig_c w3 0 4 4 [0, 0, 0, 0] (by kernel_rfl) rfl).mono ?_
  clear q0_0 q0_1 q0_2 q0_3 q0_4 q0_5 q1_0 q1_1 q1_2 q1_3 q1_4 q1_5
  have hz_d := HB.out.size
  rintro r w4 ⟨hb, A_d, c_d, rfl, hc_d, hC, hO_d⟩
  have HB := Lib.hid (HB.out.trans (hb.mono HB.out.size))
  have X0 := Lib.hid (blk_below X0.out hb)
  have X1 := Lib.hid (blk_below X1.out hb)
  have HC_blk := Lib.hid (Kd.C_below HC_blk.out hb)
  have HC_t1 := Lib.hid (Kd.C_below HC_t1.out hb)
  have HC_d := Lib.hid hC
  clear hb hC
  have q0_0 : w4.cell? ⟨w.heap.size, 0, none⟩ = some (.int .i64 0) := blk_cell X0.out 0
  have q0_1 : w4.cell? ⟨w.heap.size, 1, none⟩ = some (.int .i32 0) := blk_cell X0.out 1
  have q0_2 : w4.cell? ⟨w.heap.size, 2, none⟩ = some (.int .i64 (-1)) := blk_cell X0.out 2
  have q0_3 : w4.cell? ⟨w.heap.size, 3, none⟩ = some (.int .i16 (-1)) := blk_cell X0.out 3
  have q0_4 : w4.cell? ⟨w.heap.size, 4, none⟩ = some (.int .i32 (-1)) := blk_cell X0.out 4
  have q0_5 : w4.cell? ⟨w.heap.size, 5, none⟩ = some (.slice (some ⟨rb, 0, none⟩) 1 1) := blk_cell X0.out 5
  have q1_0 : w4.cell? ⟨rb, 0, none⟩ = some (.int .i64 7) := blk_cell X1.out 0
  have q1_1 : w4.cell? ⟨rb, 1, none⟩ = some (.bool false) := blk_cell X1.out 1
  have q1_2 : w4.cell? ⟨rb, 2, none⟩ = some (.slice none 0 0) := blk_cell X1.out 2
  have q1_3 : w4.cell? ⟨rb, 3, none⟩ = some (.bool false) := blk_cell X1.out 3
  have q1_4 : w4.cell? ⟨rb, 4, none⟩ = some (.slice none 0 0) := blk_cell X1.out 4
  have q1_5 : w4.cell? ⟨rb, 5, none⟩ = some (.slice none 0 0) := blk_cell X1.out 5
  go_wp2_with fail
  refine (cat_c w4 _ _ _ _ _ _ [0, 0] [0, 0, 0, 0] [0, 0, 0, 0, 0, 0] 6 HC_t1.out HC_d.out hc_t1 hc_d (by kernel_rfl) rfl).mono ?_
  clear q0_0 q0_1 q0_2 q0_3 q0_4 q0_5 q1_0 q1_1 q1_2 q1_3 q1_4 q1_5
  have hz_t2 := HB.out.size
  rintro r w5 ⟨hb, A_t2, c_t2, rfl, hc_t2, hC, hO_t2⟩
  have HB := Lib.hid (HB.out.trans (hb.mono HB.out.size))
  have X0 := Lib.hid (blk_below X0.out hb)
  have X1 := Lib.hid (blk_below X1.out hb)
  have HC_blk := Lib.hid (Kd.C_below HC_blk.out hb)
  have HC_t1 := Lib.hid (Kd.C_below HC_t1.out hb)
  have HC_d := Lib.hid (Kd.C_below HC_d.out hb)
  have HC_t2 := Lib.hid hC
  clear hb hC
  have q0_0 : w5.cell? ⟨w.heap.size, 0, none⟩ = some (.int .i64 0) := blk_cell X0.out 0
  have q0_1 : w5.cell? ⟨w.heap.size, 1, none⟩ = some (.int .i32 0) := blk_cell X0.out 1
  have q0_2 : w5.cell? ⟨w.heap.size, 2, none⟩ = some (.int .i64 (-1)) := blk_cell X0.out 2
  have q0_3 : w5.cell? ⟨w.heap.size, 3, none⟩ = some (.int .i16 (-1)) := blk_cell X0.out 3
  have q0_4 : w5.cell? ⟨w.heap.size, 4, none⟩ = some (.int .i32 (-1)) := blk_cell X0.out 4
  have q0_5 : w5.cell? ⟨w.heap.size, 5, none⟩ = some (.slice (some ⟨rb, 0, none⟩) 1 1) := blk_cell X0.out 5
  have q1_0 : w5.cell? ⟨rb, 0, none⟩ = some (.int .i64 7) := blk_cell X1.out 0
  have q1_1 : w5.cell? ⟨rb, 1, none⟩ = some (.bool false) := blk_cell X1.out 1
  have q1_2 : w5.cell? ⟨rb, 2, none⟩ = some (.slice none 0 0) := blk_cell X1.out 2
  have q1_3 : w5.cell? ⟨rb, 3, none⟩ = some (.bool false) := blk_cell X1.out 3
  have q1_4 : w5.cell? ⟨rb, 4, none⟩ = some (.slice none 0 0) := blk_cell X1.out 4
  have q1_5 : w5.cell? ⟨rb, 5, none⟩ = some (.slice none 0 0) := blk_cell X1.out 5
  go_wp2_with fail
  clear HC_t1
  clear HC_d
  refine (dig_c w5 7 8 8 [0, 0, 0, 0, 0, 0, 0, 7] (by kernel_rfl) rfl).mono ?_
  clear q0_0 q0_1 q0_2 q0_3 q0_4 q0_5 q1_0 q1_1 q1_2 q1_3 q1_4 q1_5
  have hz_d := HB.out.size
  rintro r w6 ⟨hb, A_d, c_d, rfl, hc_d, hC, hO_d⟩
  have HB := Lib.hid (HB.out.trans (hb.mono HB.out.size))
  have X0 := Lib.hid (blk_below X0.out hb)
  have X1 := Lib.hid (blk_below X1.out hb)
  have HC_blk := Lib.hid (Kd.C_below HC_blk.out hb)
  have HC_t2 := Lib.hid (Kd.C_below HC_t2.out hb)
  have HC_d := Lib.hid hC
  clear hb hC
  have q0_0 : w6.cell? ⟨w.heap.size, 0, none⟩ = some (.int .i64 0) := blk_cell X0.out 0
  have q0_1 : w6.cell? ⟨w.heap.size, 1, none⟩ = some (.int .i32 0) := blk_cell X0.out 1
  have q0_2 : w6.cell? ⟨w.heap.size, 2, none⟩ = some (.int .i64 (-1)) := blk_cell X0.out 2
  have q0_3 : w6.cell? ⟨w.heap.size, 3, none⟩ = some (.int .i16 (-1)) := blk_cell X0.out 3
  have q0_4 : w6.cell? ⟨w.heap.size, 4, none⟩ = some (.int .i32 (-1)) := blk_cell X0.out 4
  have q0_5 : w6.cell? ⟨w.heap.size, 5, none⟩ = some (.slice (some ⟨rb, 0, none⟩) 1 1) := blk_cell X0.out 5
  have q1_0 : w6.cell? ⟨rb, 0, none⟩ = some (.int .i64 7) := blk_cell X1.out 0
  have q1_1 : w6.cell? ⟨rb, 1, none⟩ = some (.bool false) := blk_cell X1.out 1
  have q1_2 : w6.cell? ⟨rb, 2, none⟩ = some (.slice none 0 0) := blk_cell X1.out 2
  have q1_3 : w6.cell? ⟨rb, 3, none⟩ = some (.bool false) := blk_cell X1.out 3
  have q1_4 : w6.cell? ⟨rb, 4, none⟩ = some (.slice none 0 0) := blk_cell X1.out 4
  have q1_5 : w6.cell? ⟨rb, 5, none⟩ = some (.slice none 0 0) := blk_cell X1.out 5
  go_wp2_with fail
  refine (cat_c w6 _ _ _ _ _ _ [0, 0, 0, 0, 0, 0] [0, 0, 0, 0, 0, 0, 0, 7] [0, 0, 0, 0, 0, 0, 0, 0, 0, 0, 0, 0, 0, 7] 14 HC_t2.out HC_d.out hc_t2 hc_d (by kernel_rfl) rfl).mono ?_
  clear q0_0 q0_1 q0_2 q0_3 q0_4 q0_5 q1_0 q1_1 q1_2 q1_3 q1_4 q1_5
  have hz_t3 := HB.out.size
  rintro r w7 ⟨hb, A_t3, c_t3, rfl, hc_t3, hC, hO_t3⟩
  have HB := Lib.hid (HB.out.trans (hb.mono HB.out.size))
  have X0 := Lib.hid (blk_below X0.out hb)
  have X1 := Lib.hid (blk_below X1.out hb)
  have HC_blk := Lib.hid (Kd.C_below HC_blk.out hb)
  have HC_t2 := Lib.hid (Kd.C_below HC_t2.out hb)
  have HC_d := Lib.hid (Kd.C_below HC_d.out hb)
  have HC_t3 := Lib.hid hC
  clear hb hC
  have q0_0 : w7.cell? ⟨w.heap.size, 0, none⟩ = some (.int .i64 0) := blk_cell X0.out 0
  have q0_1 : w7.cell? ⟨w.heap.size, 1, none⟩ = some (.int .i32 0) := blk_cell X0.out 1
  have q0_2 : w7.cell? ⟨w.heap.size, 2, none⟩ = some (.int .i64 (-1)) := blk_cell X0.out 2
  have q0_3 : w7.cell? ⟨w.heap.size, 3, none⟩ = some (.int .i16 (-1)) := blk_cell X0.out 3
  have q0_4 : w7.cell? ⟨w.heap.size, 4, none⟩ = some (.int .i32 (-1)) := blk_cell X0.out 4
  have q0_5 : w7.cell? ⟨w.heap.size, 5, none⟩ = some (.slice (some ⟨rb, 0, none⟩) 1 1) := blk_cell X0.out 5
  have q1_0 : w7.cell? ⟨rb, 0, none⟩ = some (.int .i64 7) := blk_cell X1.out 0
  have q1_1 : w7.cell? ⟨rb, 1, none⟩ = some (.bool false) := blk_cell X1.out 1
  have q1_2 : w7.cell? ⟨rb, 2, none⟩ = some (.slice none 0 0) := blk_cell X1.out 2
  have q1_3 : w7.cell? ⟨rb, 3, none⟩ = some (.bool false) := blk_cell X1.out 3
  have q1_4 : w7.cell? ⟨rb, 4, none⟩ = some (.slice none 0 0) := blk_cell X1.out 4
  have q1_5 : w7.cell? ⟨rb, 5, none⟩ = some (.slice none 0 0) := blk_cell X1.out 5
  go_wp2_with fail
  clear HC_t2
  clear HC_d
  refine (great_one w7 rb X1.out).mono ?_
  clear q0_0 q0_1 q0_2 q0_3 q0_4 q0_5 q1_0 q1_1 q1_2 q1_3 q1_4 q1_5
  rintro r w8 ⟨hb, rfl⟩
  have HB := Lib.hid (HB.out.trans (hb.mono HB.out.size))
  have X0 := Lib.hid (blk_below X0.out hb)
  have X1 := Lib.hid (blk_below X1.out hb)
  have HC_blk := Lib.hid (Kd.C_below HC_blk.out hb)
  have HC_t3 := Lib.hid (Kd.C_below HC_t3.out hb)
  clear hb
  have q0_0 : w8.cell? ⟨w.heap.size, 0, none⟩ = some (.int .i64 0) := blk_cell X0.out 0
  have q0_1 : w8.cell? ⟨w.heap.size, 1, none⟩ = some (.int .i32 0) := blk_cell X0.out 1
  have q0_2 : w8.cell? ⟨w.heap.size, 2, none⟩ = some (.int .i64 (-1)) := blk_cell X0.out 2
  have q0_3 : w8.cell? ⟨w.heap.size, 3, none⟩ = some (.int .i16 (-1)) := blk_cell X0.out 3
  have q0_4 : w8.cell? ⟨w.heap.size, 4, none⟩ = some (.int .i32 (-1)) := blk_cell X0.out 4
  have q0_5 : w8.cell? ⟨w.heap.size, 5, none⟩ = some (.slice (some ⟨rb, 0, none⟩) 1 1) := blk_cell X0.out 5
  have q1_0 : w8.cell? ⟨rb, 0, none⟩ = some (.int .i64 7) := blk_cell X1.out 0
  have q1_1 : w8.cell? ⟨rb, 1, none⟩ = some (.bool false) := blk_cell X1.out 1
  have q1_2 : w8.cell? ⟨rb, 2, none⟩ = some (.slice none 0 0) := blk_cell X1.out 2
  have q1_3 : w8.cell? ⟨rb, 3, none⟩ = some (.bool false) := blk_cell X1.out 3
  have q1_4 : w8.cell? ⟨rb, 4, none⟩ = some (.slice none 0 0) := blk_cell X1.out 4
  have q1_5 : w8.cell? ⟨rb, 5, none⟩ = some (.slice none 0 0) := blk_cell X1.out 5
  go_wp2_with fail
  refine (dig_c w8 7 8 8 [0, 0, 0, 0, 0, 0, 0, 7] (by kernel_rfl) rfl).mono ?_
  clear q0_0 q0_1 q0_2 q0_3 q0_4 q0_5 q1_0 q1_1 q1_2 q1_3 q1_4 q1_5
  have hz_d := HB.out.size
  rintro r w9 ⟨hb, A_d, c_d, rfl, hc_d, hC, hO_d⟩
  have HB := Lib.hid (HB.out.trans (hb.mono HB.out.size))
  have X0 := Lib.hid (blk_below X0.out hb)
  have X1 := Lib.hid (blk_below X1.out hb)
  have HC_blk := Lib.hid (Kd.C_below HC_blk.out hb)
  have HC_t3 := Lib.hid (Kd.C_below HC_t3.out hb)
  have HC_d := Lib.hid hC
  clear hb hC
  have q0_0 : w9.cell? ⟨w.heap.size, 0, none⟩ = some (.int .i64 0) := blk_cell X0.out 0
  have q0_1 : w9.cell? ⟨w.heap.size, 1, none⟩ = some (.int .i32 0) := blk_cell X0.out 1
  have q0_2 : w9.cell? ⟨w.heap.size, 2, none⟩ = some (.int .i64 (-1)) := blk_cell X0.out 2
  have q0_3 : w9.cell? ⟨w.heap.size, 3, none⟩ = some (.int .i16 (-1)) := blk_cell X0.out 3
  have q0_4 : w9.cell? ⟨w.heap.size, 4, none⟩ = some (.int .i32 (-1)) := blk_cell X0.out 4
  have q0_5 : w9.cell? ⟨w.heap.size, 5, none⟩ = some (.slice (some ⟨rb, 0, none⟩) 1 1) := blk_cell X0.out 5
  have q1_0 : w9.cell? ⟨rb, 0, none⟩ = some (.int .i64 7) := blk_cell X1.out 0
  have q1_1 : w9.cell? ⟨rb, 1, none⟩ = some (.bool false) := blk_cell X1.out 1
  have q1_2 : w9.cell? ⟨rb, 2, none⟩ = some (.slice none 0 0) := blk_cell X1.out 2
  have q1_3 : w9.cell? ⟨rb, 3, none⟩ = some (.bool false) := blk_cell X1.out 3
  have q1_4 : w9.cell? ⟨rb, 4, none⟩ = some (.slice none 0 0) := blk_cell X1.out 4
  have q1_5 : w9.cell? ⟨rb, 5, none⟩ = some (.slice none 0 0) := blk_cell X1.out 5
  go_wp2_with fail
  refine (cat_c w9 _ _ _ _ _ _ [0, 0, 0, 0, 0, 0, 0, 0, 0, 0, 0, 0, 0, 7] [0, 0, 0, 0, 0, 0, 0, 7] [0, 0, 0, 0, 0, 0, 0, 0, 0, 0, 0, 0, 0, 7, 0, 0, 0, 0, 0, 0, 0, 7] 22 HC_t3.out HC_d.out hc_t3 hc_d (by kernel_rfl) rfl).mono ?_
  clear q0_0 q0_1 q0_2 q0_3 q0_4 q0_5 q1_0 q1_1 q1_2 q1_3 q1_4 q1_5
  have hz_t4 := HB.out.size
  rintro r w10 ⟨hb, A_t4, c_t4, rfl, hc_t4, hC, hO_t4⟩
  have HB := Lib.hid (HB.out.trans (hb.mono HB.out.size))
  have X0 := Lib.hid (blk_below X0.out hb)
  have X1 := Lib.hid (blk_below X1.out hb)
  have HC_blk := Lib.hid (Kd.C_below HC_blk.out hb)
  have HC_t3 := Lib.hid (Kd.C_below HC_t3.out hb)
  have HC_d := Lib.hid (Kd.C_below HC_d.out hb)
  have HC_t4 := Lib.hid hC
  clear hb hC
  have q0_0 : w10.cell? ⟨w.heap.size, 0, none⟩ = some (.int .i64 0) := blk_cell X0.out 0
  have q0_1 : w10.cell? ⟨w.heap.size, 1, none⟩ = some (.int .i32 0) := blk_cell X0.out 1
  have q0_2 : w10.cell? ⟨w.heap.size, 2, none⟩ = some (.int .i64 (-1)) := blk_cell X0.out 2
  have q0_3 : w10.cell? ⟨w.heap.size, 3, none⟩ = some (.int .i16 (-1)) := blk_cell X0.out 3
  have q0_4 : w10.cell? ⟨w.heap.size, 4, none⟩ = some (.int .i32 (-1)) := blk_cell X0.out 4
  have q0_5 : w10.cell? ⟨w.heap.size, 5, none⟩ = some (.slice (some ⟨rb, 0, none⟩) 1 1) := blk_cell X0.out 5
  have q1_0 : w10.cell? ⟨rb, 0, none⟩ = some (.int .i64 7) := blk_cell X1.out 0
  have q1_1 : w10.cell? ⟨rb, 1, none⟩ = some (.bool false) := blk_cell X1.out 1
  have q1_2 : w10.cell? ⟨rb, 2, none⟩ = some (.slice none 0 0) := blk_cell X1.out 2
  have q1_3 : w10.cell? ⟨rb, 3, none⟩ = some (.bool false) := blk_cell X1.out 3
  have q1_4 : w10.cell? ⟨rb, 4, none⟩ = some (.slice none 0 0) := blk_cell X1.out 4
  have q1_5 : w10.cell? ⟨rb, 5, none⟩ = some (.slice none 0 0) := blk_cell X1.out 5
  go_wp2_with fail
  clear HC_t3
  clear HC_d
  refine (dig_c w10 (-1) 8 8 [255, 255, 255, 255, 255, 255, 255, 255] (by kernel_rfl) rfl).mono ?_
  clear q0_0 q0_1 q0_2 q0_3 q0_4 q0_5 q1_0 q1_1 q1_2 q1_3 q1_4 q1_5
  have hz_d := HB.out.size
  rintro r w11 ⟨hb, A_d, c_d, rfl, hc_d, hC, hO_d⟩
  have HB := Lib.hid (HB.out.trans (hb.mono HB.out.size))
  have X0 := Lib.hid (blk_below X0.out hb)
  have X1 := Lib.hid (blk_below X1.out hb)
  have HC_blk := Lib.hid (Kd.C_below HC_blk.out hb)
  have HC_t4 := Lib.hid (Kd.C_below HC_t4.out hb)
  have HC_d := Lib.hid hC
  clear hb hC
  have q0_0 : w11.cell? ⟨w.heap.size, 0, none⟩ = some (.int .i64 0) := blk_cell X0.out 0
  have q0_1 : w11.cell? ⟨w.heap.size, 1, none⟩ = some (.int .i32 0) := blk_cell X0.out 1
  have q0_2 : w11.cell? ⟨w.heap.size, 2, none⟩ = some (.int .i64 (-1)) := blk_cell X0.out 2
  have q0_3 : w11.cell? ⟨w.heap.size, 3, none⟩ = some (.int .i16 (-1)) := blk_cell X0.out 3
  have q0_4 : w11.cell? ⟨w.heap.size, 4, none⟩ = some (.int .i32 (-1)) := blk_cell X0.out 4
  have q0_5 : w11.cell? ⟨w.heap.size, 5, none⟩ = some (.slice (some ⟨rb, 0, none⟩) 1 1) := blk_cell X0.out 5
  have q1_0 : w11.cell? ⟨rb, 0, none⟩ = some (.int .i64 7) := blk_cell X1.out 0
  have q1_1 : w11.cell? ⟨rb, 1, none⟩ = some (.bool false) := blk_cell X1.out 1
  have q1_2 : w11.cell? ⟨rb, 2, none⟩ = some (.slice none 0 0) := blk_cell X1.out 2
  have q1_3 : w11.cell? ⟨rb, 3, none⟩ = some (.bool false) := blk_cell X1.out 3
  have q1_4 : w11.cell? ⟨rb, 4, none⟩ = some (.slice none 0 0) := blk_cell X1.out 4
  have q1_5 : w11.cell? ⟨rb, 5, none⟩ = some (.slice none 0 0) := blk_cell X1.out 5
  go_wp2_with fail
  refine (cat_c w11 _ _ _ _ _ _ [0, 0, 0, 0, 0, 0, 0, 0, 0, 0, 0, 0, 0, 7, 0, 0, 0, 0, 0, 0, 0, 7] [255, 255, 255, 255, 255, 255, 255, 255] [0, 0, 0, 0, 0, 0, 0, 0, 0, 0, 0, 0, 0, 7, 0, 0, 0, 0, 0, 0, 0, 7, 255, 255, 255, 255, 255, 255, 255, 255] 30 HC_t4.out HC_d.out hc_t4 hc_d (by kernel_rfl) rfl).mono ?_
  clear q0_0 q0_1 q0_2 q0_3 q0_4 q0_5 q1_0 q1_1 q1_2 q1_3 q1_4 q1_5
  have hz_t5 := HB.out.size
  rintro r w12 ⟨hb, A_t5, c_t5, rfl, hc_t5, hC, hO_t5⟩
  have HB := Lib.hid (HB.out.trans (hb.mono HB.out.size))
  have X0 := Lib.hid (blk_below X0.out hb)
  have X1 := Lib.hid (blk_below X1.out hb)
  have HC_blk := Lib.hid (Kd.C_below HC_blk.out hb)
  have HC_t4 := Lib.hid (Kd.C_below HC_t4.out hb)
  have HC_d := Lib.hid (Kd.C_below HC_d.out hb)
  have HC_t5 := Lib.hid hC
  clear hb hC
  have q0_0 : w12.cell? ⟨w.heap.size, 0, none⟩ = some (.int .i64 0) := blk_cell X0.out 0
  have q0_1 : w12.cell? ⟨w.heap.size, 1, none⟩ = some (.int .i32 0) := blk_cell X0.out 1
  have q0_2 : w12.cell? ⟨w.heap.size, 2, none⟩ = some (.int .i64 (-1)) := blk_cell X0.out 2
  have q0_3 : w12.cell? ⟨w.heap.size, 3, none⟩ = some (.int .i16 (-1)) := blk_cell X0.out 3
  have q0_4 : w12.cell? ⟨w.heap.size, 4, none⟩ = some (.int .i32 (-1)) := blk_cell X0.out 4
  have q0_5 : w12.cell? ⟨w.heap.size, 5, none⟩ = some (.slice (some ⟨rb, 0, none⟩) 1 1) := blk_cell X0.out 5
  have q1_0 : w12.cell? ⟨rb, 0, none⟩ = some (.int .i64 7) := blk_cell X1.out 0
  have q1_1 : w12.cell? ⟨rb, 1, none⟩ = some (.bool false) := blk_cell X1.out 1
  have q1_2 : w12.cell? ⟨rb, 2, none⟩ = some (.slice none 0 0) := blk_cell X1.out 2
  have q1_3 : w12.cell? ⟨rb, 3, none⟩ = some (.bool false) := blk_cell X1.out 3
  have q1_4 : w12.cell? ⟨rb, 4, none⟩ = some (.slice none 0 0) := blk_cell X1.out 4
  have q1_5 : w12.cell? ⟨rb, 5, none⟩ = some (.slice none 0 0) := blk_cell X1.out 5
  go_wp2_with fail
  clear HC_t4
  clear HC_d
  refine (dig_c w12 (-1) 2 2 [255, 255] (by kernel_rfl) rfl).mono ?_
  clear q0_0 q0_1 q0_2 q0_3 q0_4 q0_5 q1_0 q1_1 q1_2 q1_3 q1_4 q1_5
  have hz_d := HB.out.size
  rintro r w13 ⟨hb, A_d, c_d, rfl, hc_d, hC, hO_d⟩
  have HB := Lib.hid (HB.out.trans (hb.mono HB.out.size))
  have X0 := Lib.hid (blk_below X0.out hb)
  have X1 := Lib.hid (blk_below X1.out hb)
  have HC_blk := Lib.hid (Kd.C_below HC_blk.out hb)
  have HC_t5 := Lib.hid (Kd.C_below HC_t5.out hb)
  have HC_d := Lib.hid hC
  clear hb hC
  have q0_0 : w13.cell? ⟨w.heap.size, 0, none⟩ = some (.int .i64 0) := blk_cell X0.out 0
  have q0_1 : w13.cell? ⟨w.heap.size, 1, none⟩ = some (.int .i32 0) := blk_cell X0.out 1
  have q0_2 : w13.cell? ⟨w.heap.size, 2, none⟩ = some (.int .i64 (-1)) := blk_cell X0.out 2
  have q0_3 : w13.cell? ⟨w.heap.size, 3, none⟩ = some (.int .i16 (-1)) := blk_cell X0.out 3
  have q0_4 : w13.cell? ⟨w.heap.size, 4, none⟩ = some (.int .i32 (-1)) := blk_cell X0.out 4
  have q0_5 : w13.cell? ⟨w.heap.size, 5, none⟩ = some (.slice (some ⟨rb, 0, none⟩) 1 1) := blk_cell X0.out 5
  have q1_0 : w13.cell? ⟨rb, 0, none⟩ = some (.int .i64 7) := blk_cell X1.out 0
  have q1_1 : w13.cell? ⟨rb, 1, none⟩ = some (.bool false) := blk_cell X1.out 1
  have q1_2 : w13.cell? ⟨rb, 2, none⟩ = some (.slice none 0 0) := blk_cell X1.out 2
  have q1_3 : w13.cell? ⟨rb, 3, none⟩ = some (.bool false) := blk_cell X1.out 3
  have q1_4 : w13.cell? ⟨rb, 4, none⟩ = some (.slice none 0 0) := blk_cell X1.out 4
  have q1_5 : w13.cell? ⟨rb, 5, none⟩ = some (.slice none 0 0) := blk_cell X1.out 5
  go_wp2_with fail
  refine (cat_c w13 _ _ _ _ _ _ [0, 0, 0, 0, 0, 0, 0, 0, 0, 0, 0, 0, 0, 7, 0, 0, 0, 0, 0, 0, 0, 7, 255, 255, 255, 255, 255, 255, 255, 255] [255, 255] [0, 0, 0, 0, 0, 0, 0, 0, 0, 0, 0, 0, 0, 7, 0, 0, 0, 0, 0, 0, 0, 7, 255, 255, 255, 255, 255, 255, 255, 255, 255, 255] 32 HC_t5.out HC_d.out hc_t5 hc_d (by kernel_rfl) rfl).mono ?_
  clear q0_0 q0_1 q0_2 q0_3 q0_4 q0_5 q1_0 q1_1 q1_2 q1_3 q1_4 q1_5
  have hz_t6 := HB.out.size
  rintro r w14 ⟨hb, A_t6, c_t6, rfl, hc_t6, hC, hO_t6⟩
  have HB := Lib.hid (HB.out.trans (hb.mono HB.out.size))
  have X0 := Lib.hid (blk_below X0.out hb)
  have X1 := Lib.hid (blk_below X1.out hb)
  have HC_blk := Lib.hid (Kd.C_below HC_blk.out hb)
  have HC_t5 := Lib.hid (Kd.C_below HC_t5.out hb)
  have HC_d := Lib.hid (Kd.C_below HC_d.out hb)
  have HC_t6 := Lib.hid hC
  clear hb hC
  have q0_0 : w14.cell? ⟨w.heap.size, 0, none⟩ = some (.int .i64 0) := blk_cell X0.out 0
  have q0_1 : w14.cell? ⟨w.heap.size, 1, none⟩ = some (.int .i32 0) := blk_cell X0.out 1
  have q0_2 : w14.cell? ⟨w.heap.size, 2, none⟩ = some (.int .i64 (-1)) := blk_cell X0.out 2
  have q0_3 : w14.cell? ⟨w.heap.size, 3, none⟩ = some (.int .i16 (-1)) := blk_cell X0.out 3
  have q0_4 : w14.cell? ⟨w.heap.size, 4, none⟩ = some (.int .i32 (-1)) := blk_cell X0.out 4
  have q0_5 : w14.cell? ⟨w.heap.size, 5, none⟩ = some (.slice (some ⟨rb, 0, none⟩) 1 1) := blk_cell X0.out 5
  have q1_0 : w14.cell? ⟨rb, 0, none⟩ = some (.int .i64 7) := blk_cell X1.out 0
  have q1_1 : w14.cell? ⟨rb, 1, none⟩ = some (.bool false) := blk_cell X1.out 1
  have q1_2 : w14.cell? ⟨rb, 2, none⟩ = some (.slice none 0 0) := blk_cell X1.out 2
  have q1_3 : w14.cell? ⟨rb, 3, none⟩ = some (.bool false) := blk_cell X1.out 3
  have q1_4 : w14.cell? ⟨rb, 4, none⟩ = some (.slice none 0 0) := blk_cell X1.out 4
  have q1_5 : w14.cell? ⟨rb, 5, none⟩ = some (.slice none 0 0) := blk_cell X1.out 5
  go_wp2_with fail
  clear HC_t5
  clear HC_d
  refine (dig_c w14 (-1) 4 4 [255, 255, 255, 255] (by kernel_rfl) rfl).mono ?_
  clear q0_0 q0_1 q0_2 q0_3 q0_4 q0_5 q1_0 q1_1 q1_2 q1_3 q1_4 q1_5
  have hz_d := HB.out.size
  rintro r w15 ⟨hb, A_d, c_d, rfl, hc_d, hC, hO_d⟩
  have HB := Lib.hid (HB.out.trans (hb.mono HB.out.size))
  have X0 := Lib.hid (blk_below X0.out hb)
  have X1 := Lib.hid (blk_below X1.out hb)
  have HC_blk := Lib.hid (Kd.C_below HC_blk.out hb)
  have HC_t6 := Lib.hid (Kd.C_below HC_t6.out hb)
  have HC_d := Lib.hid hC
  clear hb hC
  have q0_0 : w15.cell? ⟨w.heap.size, 0, none⟩ = some (.int .i64 0) := blk_cell X0.out 0
  have q0_1 : w15.cell? ⟨w.heap.size, 1, none⟩ = some (.int .i32 0) := blk_cell X0.out 1
  have q0_2 : w15.cell? ⟨w.heap.size, 2, none⟩ = some (.int .i64 (-1)) := blk_cell X0.out 2
  have q0_3 : w15.cell? ⟨w.heap.size, 3, none⟩ = some (.int .i16 (-1)) := blk_cell X0.out 3
  have q0_4 : w15.cell? ⟨w.heap.size, 4, none⟩ = some (.int .i32 (-1)) := blk_cell X0.out 4
  have q0_5 : w15.cell? ⟨w.heap.size, 5, none⟩ = some (.slice (some ⟨rb, 0, none⟩) 1 1) := blk_cell X0.out 5
  have q1_0 : w15.cell? ⟨rb, 0, none⟩ = some (.int .i64 7) := blk_cell X1.out 0
  have q1_1 : w15.cell? ⟨rb, 1, none⟩ = some (.bool false) := blk_cell X1.out 1
  have q1_2 : w15.cell? ⟨rb, 2, none⟩ = some (.slice none 0 0) := blk_cell X1.out 2
  have q1_3 : w15.cell? ⟨rb, 3, none⟩ = some (.bool false) := blk_cell X1.out 3
  have q1_4 : w15.cell? ⟨rb, 4, none⟩ = some (.slice none 0 0) := blk_cell X1.out 4
  have q1_5 : w15.cell? ⟨rb, 5, none⟩ = some (.slice none 0 0) := blk_cell X1.out 5
  go_wp2_with fail
  refine (cat_c w15 _ _ _ _ _ _ [0, 0, 0, 0, 0, 0, 0, 0, 0, 0, 0, 0, 0, 7, 0, 0, 0, 0, 0, 0, 0, 7, 255, 255, 255, 255, 255, 255, 255, 255, 255, 255] [255, 255, 255, 255] [0, 0, 0, 0, 0, 0, 0, 0, 0, 0, 0, 0, 0, 7, 0, 0, 0, 0, 0, 0, 0, 7, 255, 255, 255, 255, 255, 255, 255, 255, 255, 255, 255, 255, 255, 255] 36 HC_t6.out HC_d.out hc_t6 hc_d (by kernel_rfl) rfl).mono ?_
  clear q0_0 q0_1 q0_2 q0_3 q0_4 q0_5 q1_0 q1_1 q1_2 q1_3 q1_4 q1_5
  have hz_t7 := HB.out.size
  rintro r w16 ⟨hb, A_t7, c_t7, rfl, hc_t7, hC, hO_t7⟩
  have HB := Lib.hid (HB.out.trans (hb.mono HB.out.size))
  have X0 := Lib.hid (blk_below X0.out hb)
  have X1 := Lib.hid (blk_below X1.out hb)
  have HC_blk := Lib.hid (Kd.C_below HC_blk.out hb)
  have HC_t6 := Lib.hid (Kd.C_below HC_t6.out hb)
  have HC_d := Lib.hid (Kd.C_below HC_d.out hb)
  have HC_t7 := Lib.hid hC
  clear hb hC
  have q0_0 : w16.cell? ⟨w.heap.size, 0, none⟩ = some (.int .i64 0) := blk_cell X0.out 0
  have q0_1 : w16.cell? ⟨w.heap.size, 1, none⟩ = some (.int .i32 0) := blk_cell X0.out 1
  have q0_2 : w16.cell? ⟨w.heap.size, 2, none⟩ = some (.int .i64 (-1)) := blk_cell X0.out 2
  have q0_3 : w16.cell? ⟨w.heap.size, 3, none⟩ = some (.int .i16 (-1)) := blk_cell X0.out 3
  have q0_4 : w16.cell? ⟨w.heap.size, 4, none⟩ = some (.int .i32 (-1)) := blk_cell X0.out 4
  have q0_5 : w16.cell? ⟨w.heap.size, 5, none⟩ = some (.slice (some ⟨rb, 0, none⟩) 1 1) := blk_cell X0.out 5
  have q1_0 : w16.cell? ⟨rb, 0, none⟩ = some (.int .i64 7) := blk_cell X1.out 0
  have q1_1 : w16.cell? ⟨rb, 1, none⟩ = some (.bool false) := blk_cell X1.out 1
  have q1_2 : w16.cell? ⟨rb, 2, none⟩ = some (.slice none 0 0) := blk_cell X1.out 2
  have q1_3 : w16.cell? ⟨rb, 3, none⟩ = some (.bool false) := blk_cell X1.out 3
  have q1_4 : w16.cell? ⟨rb, 4, none⟩ = some (.slice none 0 0) := blk_cell X1.out 4
  have q1_5 : w16.cell? ⟨rb, 5, none⟩ = some (.slice none 0 0) := blk_cell X1.out 5
  go_wp2_with fail
  clear HC_t6
  clear HC_d
  refine (dig_c w16 1 4 4 [0, 0, 0, 1] (by kernel_rfl) rfl).mono ?_
  clear q0_0 q0_1 q0_2 q0_3 q0_4 q0_5 q1_0 q1_1 q1_2 q1_3 q1_4 q1_5
  have hz_d := HB.out.size
  rintro r w17 ⟨hb, A_d, c_d, rfl, hc_d, hC, hO_d⟩
  have HB := Lib.hid (HB.out.trans (hb.mono HB.out.size))
  have X0 := Lib.hid (blk_below X0.out hb)
  have X1 := Lib.hid (blk_below X1.out hb)
  have HC_blk := Lib.hid (Kd.C_below HC_blk.out hb)
  have HC_t7 := Lib.hid (Kd.C_below HC_t7.out hb)
  have HC_d := Lib.hid hC
  clear hb hC
  have q0_0 : w17.cell? ⟨w.heap.size, 0, none⟩ = some (.int .i64 0) := blk_cell X0.out 0
  have q0_1 : w17.cell? ⟨w.heap.size, 1, none⟩ = some (.int .i32 0) := blk_cell X0.out 1
  have q0_2 : w17.cell? ⟨w.heap.size, 2, none⟩ = some (.int .i64 (-1)) := blk_cell X0.out 2
  have q0_3 : w17.cell? ⟨w.heap.size, 3, none⟩ = some (.int .i16 (-1)) := blk_cell X0.out 3
  have q0_4 : w17.cell? ⟨w.heap.size, 4, none⟩ = some (.int .i32 (-1)) := blk_cell X0.out 4
  have q0_5 : w17.cell? ⟨w.heap.size, 5, none⟩ = some (.slice (some ⟨rb, 0, none⟩) 1 1) := blk_cell X0.out 5
  have q1_0 : w17.cell? ⟨rb, 0, none⟩ = some (.int .i64 7) := blk_cell X1.out 0
  have q1_1 : w17.cell? ⟨rb, 1, none⟩ = some (.bool false) := blk_cell X1.out 1
  have q1_2 : w17.cell? ⟨rb, 2, none⟩ = some (.slice none 0 0) := blk_cell X1.out 2
  have q1_3 : w17.cell? ⟨rb, 3, none⟩ = some (.bool false) := blk_cell X1.out 3
  have q1_4 : w17.cell? ⟨rb, 4, none⟩ = some (.slice none 0 0) := blk_cell X1.out 4
  have q1_5 : w17.cell? ⟨rb, 5, none⟩ = some (.slice none 0 0) := blk_cell X1.out 5
  go_wp2_with fail
  refine (cat_c w17 _ _ _ _ _ _ [0, 0, 0, 0, 0, 0, 0, 0, 0, 0, 0, 0, 0, 7, 0, 0, 0, 0, 0, 0, 0, 7, 255, 255, 255, 255, 255, 255, 255, 255, 255, 255, 255, 255, 255, 255] [0, 0, 0, 1] [0, 0, 0, 0, 0, 0, 0, 0, 0, 0, 0, 0, 0, 7, 0, 0, 0, 0, 0, 0, 0, 7, 255, 255, 255, 255, 255, 255, 255, 255, 255, 255, 255, 255, 255, 255, 0, 0, 0, 1] 40 HC_t7.out HC_d.out hc_t7 hc_d (by kernel_rfl) rfl).mono ?_
  clear q0_0 q0_1 q0_2 q0_3 q0_4 q0_5 q1_0 q1_1 q1_2 q1_3 q1_4 q1_5
  have hz_t8 := HB.out.size
  rintro r w18 ⟨hb, A_t8, c_t8, rfl, hc_t8, hC, hO_t8⟩
  have HB := Lib.hid (HB.out.trans (hb.mono HB.out.size))
  have X0 := Lib.hid (blk_below X0.out hb)
  have X1 := Lib.hid (blk_below X1.out hb)
  have HC_blk := Lib.hid (Kd.C_below HC_blk.out hb)
  have HC_t7 := Lib.hid (Kd.C_below HC_t7.out hb)
  have HC_d := Lib.hid (Kd.C_below HC_d.out hb)
  have HC_t8 := Lib.hid hC
  clear hb hC
  have q0_0 : w18.cell? ⟨w.heap.size, 0, none⟩ = some (.int .i64 0) := blk_cell X0.out 0
  have q0_1 : w18.cell? ⟨w.heap.size, 1, none⟩ = some (.int .i32 0) := blk_cell X0.out 1
  have q0_2 : w18.cell? ⟨w.heap.size, 2, none⟩ = some (.int .i64 (-1)) := blk_cell X0.out 2
  have q0_3 : w18.cell? ⟨w.heap.size, 3, none⟩ = some (.int .i16 (-1)) := blk_cell X0.out 3
  have q0_4 : w18.cell? ⟨w.heap.size, 4, none⟩ = some (.int .i32 (-1)) := blk_cell X0.out 4
  have q0_5 : w18.cell? ⟨w.heap.size, 5, none⟩ = some (.slice (some ⟨rb, 0, none⟩) 1 1) := blk_cell X0.out 5
  have q1_0 : w18.cell? ⟨rb, 0, none⟩ = some (.int .i64 7) := blk_cell X1.out 0
  have q1_1 : w18.cell? ⟨rb, 1, none⟩ = some (.bool false) := blk_cell X1.out 1
  have q1_2 : w18.cell? ⟨rb, 2, none⟩ = some (.slice none 0 0) := blk_cell X1.out 2
  have q1_3 : w18.cell? ⟨rb, 3, none⟩ = some (.bool false) := blk_cell X1.out 3
  have q1_4 : w18.cell? ⟨rb, 4, none⟩ = some (.slice none 0 0) := blk_cell X1.out 4
  have q1_5 : w18.cell? ⟨rb, 5, none⟩ = some (.slice none 0 0) := blk_cell X1.out 5
  go_wp2_with fail
  clear HC_t7
  clear HC_d
  refine (cat_c w18 _ _ _ _ _ _ [0, 0, 0, 0, 0, 0, 0, 0, 0, 0, 0, 0, 0, 7, 0, 0, 0, 0, 0, 0, 0, 7, 255, 255, 255, 255, 255, 255, 255, 255, 255, 255, 255, 255, 255, 255, 0, 0, 0, 1] [12, 0, 0, 0, 0, 0, 0] [0, 0, 0, 0, 0, 0, 0, 0, 0, 0, 0, 0, 0, 7, 0, 0, 0, 0, 0, 0, 0, 7, 255, 255, 255, 255, 255, 255, 255, 255, 255, 255, 255, 255, 255, 255, 0, 0, 0, 1, 12, 0, 0, 0, 0, 0, 0] 47 HC_t8.out HC_blk.out hc_t8 hc_blk (by kernel_rfl) rfl).mono ?_
  clear q0_0 q0_1 q0_2 q0_3 q0_4 q0_5 q1_0 q1_1 q1_2 q1_3 q1_4 q1_5
  have hz_tail := HB.out.size
  rintro r w19 ⟨hb, A_tail, c_tail, rfl, hc_tail, hC, hO_tail⟩
  have HB := Lib.hid (HB.out.trans (hb.mono HB.out.size))
  have X0 := Lib.hid (blk_below X0.out hb)
  have X1 := Lib.hid (blk_below X1.out hb)
  have HC_blk := Lib.hid (Kd.C_below HC_blk.out hb)
  have HC_t8 := Lib.hid (Kd.C_below HC_t8.out hb)
  have HC_tail := Lib.hid hC
  clear hb hC
  have q0_0 : w19.cell? ⟨w.heap.size, 0, none⟩ = some (.int .i64 0) := blk_cell X0.out 0
  have q0_1 : w19.cell? ⟨w.heap.size, 1, none⟩ = some (.int .i32 0) := blk_cell X0.out 1
  have q0_2 : w19.cell? ⟨w.heap.size, 2, none⟩ = some (.int .i64 (-1)) := blk_cell X0.out 2
  have q0_3 : w19.cell? ⟨w.heap.size, 3, none⟩ = some (.int .i16 (-1)) := blk_cell X0.out 3
  have q0_4 : w19.cell? ⟨w.heap.size, 4, none⟩ = some (.int .i32 (-1)) := blk_cell X0.out 4
  have q0_5 : w19.cell? ⟨w.heap.size, 5, none⟩ = some (.slice (some ⟨rb, 0, none⟩) 1 1) := blk_cell X0.out 5
  have q1_0 : w19.cell? ⟨rb, 0, none⟩ = some (.int .i64 7) := blk_cell X1.out 0
  have q1_1 : w19.cell? ⟨rb, 1, none⟩ = some (.bool false) := blk_cell X1.out 1
  have q1_2 : w19.cell? ⟨rb, 2, none⟩ = some (.slice none 0 0) := blk_cell X1.out 2
  have q1_3 : w19.cell? ⟨rb, 3, none⟩ = some (.bool false) := blk_cell X1.out 3
  have q1_4 : w19.cell? ⟨rb, 4, none⟩ = some (.slice none 0 0) := blk_cell X1.out 4
  have q1_5 : w19.cell? ⟨rb, 5, none⟩ = some (.slice none 0 0) := blk_cell X1.out 5
  go_wp2_with fail
  clear HC_t8
  refine (dig_c w19 0 8 8 [0, 0, 0, 0, 0, 0, 0, 0] (by kernel_rfl) rfl).mono ?_
  clear q0_0 q0_1 q0_2 q0_3 q0_4 q0_5 q1_0 q1_1 q1_2 q1_3 q1_4 q1_5
  have hz_o1 := HB.out.size
  rintro r w20 ⟨hb, A_o1, c_o1, rfl, hc_o1, hC, hO_o1⟩
  have HB := Lib.hid (HB.out.trans (hb.mono HB.out.size))
  have X0 := Lib.hid (blk_below X0.out hb)
  have X1 := Lib.hid (blk_below X1.out hb)
  have HC_blk := Lib.hid (Kd.C_below HC_blk.out hb)
  have HC_tail := Lib.hid (Kd.C_below HC_tail.out hb)
  have HC_o1 := Lib.hid hC
  clear hb hC
  have q0_0 : w20.cell? ⟨w.heap.size, 0, none⟩ = some (.int .i64 0) := blk_cell X0.out 0
  have q0_1 : w20.cell? ⟨w.heap.size, 1, none⟩ = some (.int .i32 0) := blk_cell X0.out 1
  have q0_2 : w20.cell? ⟨w.heap.size, 2, none⟩ = some (.int .i64 (-1)) := blk_cell X0.out 2
  have q0_3 : w20.cell? ⟨w.heap.size, 3, none⟩ = some (.int .i16 (-1)) := blk_cell X0.out 3
  have q0_4 : w20.cell? ⟨w.heap.size, 4, none⟩ = some (.int .i32 (-1)) := blk_cell X0.out 4
  have q0_5 : w20.cell? ⟨w.heap.size, 5, none⟩ = some (.slice (some ⟨rb, 0, none⟩) 1 1) := blk_cell X0.out 5
  have q1_0 : w20.cell? ⟨rb, 0, none⟩ = some (.int .i64 7) := blk_cell X1.out 0
  have q1_1 : w20.cell? ⟨rb, 1, none⟩ = some (.bool false) := blk_cell X1.out 1
  have q1_2 : w20.cell? ⟨rb, 2, none⟩ = some (.slice none 0 0) := blk_cell X1.out 2
  have q1_3 : w20.cell? ⟨rb, 3, none⟩ = some (.bool false) := blk_cell X1.out 3
  have q1_4 : w20.cell? ⟨rb, 4, none⟩ = some (.slice none 0 0) := blk_cell X1.out 4
  have q1_5 : w20.cell? ⟨rb, 5, none⟩ = some (.slice none 0 0) := blk_cell X1.out 5
  go_wp2_with fail
  refine (dig_c w20 56 4 4 [0, 0, 0, 56] (by kernel_rfl) rfl).mono ?_
  clear q0_0 q0_1 q0_2 q0_3 q0_4 q0_5 q1_0 q1_1 q1_2 q1_3 q1_4 q1_5
  have hz_d := HB.out.size
  rintro r w21 ⟨hb, A_d, c_d, rfl, hc_d, hC, hO_d⟩
  have HB := Lib.hid (HB.out.trans (hb.mono HB.out.size))
  have X0 := Lib.hid (blk_below X0.out hb)
  have X1 := Lib.hid (blk_below X1.out hb)
  have HC_blk := Lib.hid (Kd.C_below HC_blk.out hb)
  have HC_tail := Lib.hid (Kd.C_below HC_tail.out hb)
  have HC_o1 := Lib.hid (Kd.C_below HC_o1.out hb)
  have HC_d := Lib.hid hC
  clear hb hC
  have q0_0 : w21.cell? ⟨w.heap.size, 0, none⟩ = some (.int .i64 0) := blk_cell X0.out 0
  have q0_1 : w21.cell? ⟨w.heap.size, 1, none⟩ = some (.int .i32 0) := blk_cell X0.out 1
  have q0_2 : w21.cell? ⟨w.heap.size, 2, none⟩ = some (.int .i64 (-1)) := blk_cell X0.out 2
  have q0_3 : w21.cell? ⟨w.heap.size, 3, none⟩ = some (.int .i16 (-1)) := blk_cell X0.out 3
  have q0_4 : w21.cell? ⟨w.heap.size, 4, none⟩ = some (.int .i32 (-1)) := blk_cell X0.out 4
  have q0_5 : w21.cell? ⟨w.heap.size, 5, none⟩ = some (.slice (some ⟨rb, 0, none⟩) 1 1) := blk_cell X0.out 5
  have q1_0 : w21.cell? ⟨rb, 0, none⟩ = some (.int .i64 7) := blk_cell X1.out 0
  have q1_1 : w21.cell? ⟨rb, 1, none⟩ = some (.bool false) := blk_cell X1.out 1
  have q1_2 : w21.cell? ⟨rb, 2, none⟩ = some (.slice none 0 0) := blk_cell X1.out 2
  have q1_3 : w21.cell? ⟨rb, 3, none⟩ = some (.bool false) := blk_cell X1.out 3
  have q1_4 : w21.cell? ⟨rb, 4, none⟩ = some (.slice none 0 0) := blk_cell X1.out 4
  have q1_5 : w21.cell? ⟨rb, 5, none⟩ = some (.slice none 0 0) := blk_cell X1.out 5
  go_wp2_with fail
  refine (cat_c w21 _ _ _ _ _ _ [0, 0, 0, 0, 0, 0, 0, 0] [0, 0, 0, 56] [0, 0, 0, 0, 0, 0, 0, 0, 0, 0, 0, 56] 12 HC_o1.out HC_d.out hc_o1 hc_d (by kernel_rfl) rfl).mono ?_
  clear q0_0 q0_1 q0_2 q0_3 q0_4 q0_5 q1_0 q1_1 q1_2 q1_3 q1_4 q1_5
  have hz_o2 := HB.out.size
  rintro r w22 ⟨hb, A_o2, c_o2, rfl, hc_o2, hC, hO_o2⟩
  have HB := Lib.hid (HB.out.trans (hb.mono HB.out.size))
  have X0 := Lib.hid (blk_below X0.out hb)
  have X1 := Lib.hid (blk_below X1.out hb)
  have HC_blk := Lib.hid (Kd.C_below HC_blk.out hb)
  have HC_tail := Lib.hid (Kd.C_below HC_tail.out hb)
  have HC_o1 := Lib.hid (Kd.C_below HC_o1.out hb)
  have HC_d := Lib.hid (Kd.C_below HC_d.out hb)
  have HC_o2 := Lib.hid hC
  clear hb hC
  have q0_0 : w22.cell? ⟨w.heap.size, 0, none⟩ = some (.int .i64 0) := blk_cell X0.out 0
  have q0_1 : w22.cell? ⟨w.heap.size, 1, none⟩ = some (.int .i32 0) := blk_cell X0.out 1
  have q0_2 : w22.cell? ⟨w.heap.size, 2, none⟩ = some (.int .i64 (-1)) := blk_cell X0.out 2
  have q0_3 : w22.cell? ⟨w.heap.size, 3, none⟩ = some (.int .i16 (-1)) := blk_cell X0.out 3
  have q0_4 : w22.cell? ⟨w.heap.size, 4, none⟩ = some (.int .i32 (-1)) := blk_cell X0.out 4
  have q0_5 : w22.cell? ⟨w.heap.size, 5, none⟩ = some (.slice (some ⟨rb, 0, none⟩) 1 1) := blk_cell X0.out 5
  have q1_0 : w22.cell? ⟨rb, 0, none⟩ = some (.int .i64 7) := blk_cell X1.out 0
  have q1_1 : w22.cell? ⟨rb, 1, none⟩ = some (.bool false) := blk_cell X1.out 1
  have q1_2 : w22.cell? ⟨rb, 2, none⟩ = some (.slice none 0 0) := blk_cell X1.out 2
  have q1_3 : w22.cell? ⟨rb, 3, none⟩ = some (.bool false) := blk_cell X1.out 3
  have q1_4 : w22.cell? ⟨rb, 4, none⟩ = some (.slice none 0 0) := blk_cell X1.out 4
  have q1_5 : w22.cell? ⟨rb, 5, none⟩ = some (.slice none 0 0) := blk_cell X1.out 5
  go_wp2_with fail
  clear HC_o1
  clear HC_d
  refine (dig_c w22 0 4 4 [0, 0, 0, 0] (by kernel_rfl) rfl).mono ?_
  clear q0_0 q0_1 q0_2 q0_3 q0_4 q0_5 q1_0 q1_1 q1_2 q1_3 q1_4 q1_5
  have hz_d := HB.out.size
  rintro r w23 ⟨hb, A_d, c_d, rfl, hc_d, hC, hO_d⟩
  have HB := Lib.hid (HB.out.trans (hb.mono HB.out.size))
  have X0 := Lib.hid (blk_below X0.out hb)
  have X1 := Lib.hid (blk_below X1.out hb)
  have HC_blk := Lib.hid (Kd.C_below HC_blk.out hb)
  have HC_tail := Lib.hid (Kd.C_below HC_tail.out hb)
  have HC_o2 := Lib.hid (Kd.C_below HC_o2.out hb)
  have HC_d := Lib.hid hC
  clear hb hC
  have q0_0 : w23.cell? ⟨w.heap.size, 0, none⟩ = some (.int .i64 0) := blk_cell X0.out 0
  have q0_1 : w23.cell? ⟨w.heap.size, 1, none⟩ = some (.int .i32 0) := blk_cell X0.out 1
  have q0_2 : w23.cell? ⟨w.heap.size, 2, none⟩ = some (.int .i64 (-1)) := blk_cell X0.out 2
  have q0_3 : w23.cell? ⟨w.heap.size, 3, none⟩ = some (.int .i16 (-1)) := blk_cell X0.out 3
  have q0_4 : w23.cell? ⟨w.heap.size, 4, none⟩ = some (.int .i32 (-1)) := blk_cell X0.out 4
  have q0_5 : w23.cell? ⟨w.heap.size, 5, none⟩ = some (.slice (some ⟨rb, 0, none⟩) 1 1) := blk_cell X0.out 5
  have q1_0 : w23.cell? ⟨rb, 0, none⟩ = some (.int .i64 7) := blk_cell X1.out 0
  have q1_1 : w23.cell? ⟨rb, 1, none⟩ = some (.bool false) := blk_cell X1.out 1
  have q1_2 : w23.cell? ⟨rb, 2, none⟩ = some (.slice none 0 0) := blk_cell X1.out 2
  have q1_3 : w23.cell? ⟨rb, 3, none⟩ = some (.bool false) := blk_cell X1.out 3
  have q1_4 : w23.cell? ⟨rb, 4, none⟩ = some (.slice none 0 0) := blk_cell X1.out 4
  have q1_5 : w23.cell? ⟨rb, 5, none⟩ = some (.slice none 0 0) := blk_cell X1.out 5
  go_wp2_with fail
  refine (cat_r w23 _ _ _ _ _ _ [0, 0, 0, 0, 0, 0, 0, 0, 0, 0, 0, 56] [0, 0, 0, 0] [0, 0, 0, 0, 0, 0, 0, 0, 0, 0, 0, 56, 0, 0, 0, 0] 16 HC_o2.out HC_d.out hc_o2 hc_d (by kernel_rfl) rfl).mono ?_
  clear q0_0 q0_1 q0_2 q0_3 q0_4 q0_5 q1_0 q1_1 q1_2 q1_3 q1_4 q1_5
  have HBs := HB
  have HCT := HC_tail
  rintro r w24 ⟨hb, A_o3, c_o3, rfl, hc_o3, hR⟩
  have HRo := Lib.hid hR
  have HBo := Lib.hid hb
  clear hR
  clear HC_o2 HC_d
  have HB := Lib.hid (HB.out.trans (hb.mono HB.out.size))
  have X0 := Lib.hid (blk_below X0.out hb)
  have X1 := Lib.hid (blk_below X1.out hb)
  have HC_blk := Lib.hid (Kd.C_below HC_blk.out hb)
  have HC_tail := Lib.hid (Kd.C_below HC_tail.out hb)
  clear hb
  have q0_0 : w24.cell? ⟨w.heap.size, 0, none⟩ = some (.int .i64 0) := blk_cell X0.out 0
  have q0_1 : w24.cell? ⟨w.heap.size, 1, none⟩ = some (.int .i32 0) := blk_cell X0.out 1
  have q0_2 : w24.cell? ⟨w.heap.size, 2, none⟩ = some (.int .i64 (-1)) := blk_cell X0.out 2
  have q0_3 : w24.cell? ⟨w.heap.size, 3, none⟩ = some (.int .i16 (-1)) := blk_cell X0.out 3
  have q0_4 : w24.cell? ⟨w.heap.size, 4, none⟩ = some (.int .i32 (-1)) := blk_cell X0.out 4
  have q0_5 : w24.cell? ⟨w.heap.size, 5, none⟩ = some (.slice (some ⟨rb, 0, none⟩) 1 1) := blk_cell X0.out 5
  have q1_0 : w24.cell? ⟨rb, 0, none⟩ = some (.int .i64 7) := blk_cell X1.out 0
  have q1_1 : w24.cell? ⟨rb, 1, none⟩ = some (.bool false) := blk_cell X1.out 1
  have q1_2 : w24.cell? ⟨rb, 2, none⟩ = some (.slice none 0 0) := blk_cell X1.out 2
  have q1_3 : w24.cell? ⟨rb, 3, none⟩ = some (.bool false) := blk_cell X1.out 3
  have q1_4 : w24.cell? ⟨rb, 4, none⟩ = some (.slice none 0 0) := blk_cell X1.out 4
  have q1_5 : w24.cell? ⟨rb, 5, none⟩ = some (.slice none 0 0) := blk_cell X1.out 5
  go_wp2_with (at_builtin; refine Kd.R_append (Kd.int .u8) (w0 := w23) w23.heap.size rfl (.tmp 92) (.tmp 93) 51 5 (.int .u8 0) 1 rfl Tryz.underlying51 info5 rfl (by decide) (by decide) (.slice A_o3 16 c_o3) [0, 0, 0, 0, 0, 0, 0, 0, 0, 0, 0, 56, 0, 0, 0, 0] (2 : Int) [.int .u8 2] (fun _ => True) (fun _ => False) rfl rfl rfl (fun _ h => h.elim) (fun _ _ => trivial) HRo.out HBo.out HBo.out.size (by decide) ?_; intro v_o4 w25 hr hb hg hat; obtain ⟨A_o4, c_o4, rfl⟩ : ∃ A c, v_o4 = .slice A 17 c := (by obtain ⟨A_, c_, e_⟩ := Kd.R_slice hr; exact ⟨A_, c_, e_⟩); have HR4 := Lib.hid hr; have HB4 := Lib.hid hb; clear hr hb hg hat)
  clear q0_0 q0_1 q0_2 q0_3 q0_4 q0_5 q1_0 q1_1 q1_2 q1_3 q1_4 q1_5
  have HB := Lib.hid (HBs.out.trans (HB4.out.mono HBs.out.size))
  have HC_tail := Lib.hid (Kd.C_below HCT.out HB4.out)
  have hc_o4 := (Kd.R_reads' HR4.out).2.1
  have HC_o4 : Hid (CB w25 A_o4 17 [0, 0, 0, 0, 0, 0, 0, 0, 0, 0, 0, 56, 0, 0, 0, 0, 2]) := (Kd.R_reads' HR4.out).2.2
  clear HR4 HB4 HRo HBo HBs HCT X0 X1
  refine (sum_c w25 _ _ _ [0, 0, 0, 0, 0, 0, 0, 0, 0, 0, 0, 0, 0, 7, 0, 0, 0, 0, 0, 0, 0, 7, 255, 255, 255, 255, 255, 255, 255, 255, 255, 255, 255, 255, 255, 255, 0, 0, 0, 1, 12, 0, 0, 0, 0, 0, 0] 1060290961 HC_tail.out hc_tail (by kernel_rfl)).mono ?_
  rintro r w26 ⟨hb, rfl⟩
  have HB := Lib.hid (HB.out.trans (hb.mono HB.out.size))
  have HC_tail := Lib.hid (Kd.C_below HC_tail.out hb)
  have HC_o4 := Lib.hid (Kd.C_below HC_o4.out hb)
  clear hb
  go_wp2_with fail
  refine (dig_c w26 1060290961 4 4 [63, 50, 193, 145] (by kernel_rfl) rfl).mono ?_
  have hz_d := HB.out.size
  rintro r w27 ⟨hb, A_d, c_d, rfl, hc_d, hC, hO_d⟩
  have HB := Lib.hid (HB.out.trans (hb.mono HB.out.size))
  have HC_tail := Lib.hid (Kd.C_below HC_tail.out hb)
  have HC_o4 := Lib.hid (Kd.C_below HC_o4.out hb)
  have HC_d := Lib.hid hC
  clear hb hC
  go_wp2_with fail
  refine (cat_c w27 _ _ _ _ _ _ [0, 0, 0, 0, 0, 0, 0, 0, 0, 0, 0, 56, 0, 0, 0, 0, 2] [63, 50, 193, 145] [0, 0, 0, 0, 0, 0, 0, 0, 0, 0, 0, 56, 0, 0, 0, 0, 2, 63, 50, 193, 145] 21 HC_o4.out HC_d.out hc_o4 hc_d (by kernel_rfl) rfl).mono ?_
  have hz_o5 := HB.out.size
  rintro r w28 ⟨hb, A_o5, c_o5, rfl, hc_o5, hC, hO_o5⟩
  have HB := Lib.hid (HB.out.trans (hb.mono HB.out.size))
  have HC_tail := Lib.hid (Kd.C_below HC_tail.out hb)
  have HC_o4 := Lib.hid (Kd.C_below HC_o4.out hb)
  have HC_d := Lib.hid (Kd.C_below HC_d.out hb)
  have HC_o5 := Lib.hid hC
  clear hb hC
  go_wp2_with fail
  clear HC_o4
  clear HC_d
  refine (cat_c w28 _ _ _ _ _ _ [0, 0, 0, 0, 0, 0, 0, 0, 0, 0, 0, 56, 0, 0, 0, 0, 2, 63, 50, 193, 145] [0, 0, 0, 0, 0, 0, 0, 0, 0, 0, 0, 0, 0, 7, 0, 0, 0, 0, 0, 0, 0, 7, 255, 255, 255, 255, 255, 255, 255, 255, 255, 255, 255, 255, 255, 255, 0, 0, 0, 1, 12, 0, 0, 0, 0, 0, 0] [0, 0, 0, 0, 0, 0, 0, 0, 0, 0, 0, 56, 0, 0, 0, 0, 2, 63, 50, 193, 145, 0, 0, 0, 0, 0, 0, 0, 0, 0, 0, 0, 0, 0, 7, 0, 0, 0, 0, 0, 0, 0, 7, 255, 255, 255, 255, 255, 255, 255, 255, 255, 255, 255, 255, 255, 255, 0, 0, 0, 1, 12, 0, 0, 0, 0, 0, 0] 68 HC_o5.out HC_tail.out hc_o5 hc_tail (by kernel_rfl) rfl).mono ?_
  have hz_all := HB.out.size
  rintro r w29 ⟨hb, A_all, c_all, rfl, hc_all, hC, hO_all⟩
  have HB := Lib.hid (HB.out.trans (hb.mono HB.out.size))
  have HC_tail := Lib.hid (Kd.C_below HC_tail.out hb)
  have HC_o5 := Lib.hid (Kd.C_below HC_o5.out hb)
  have HC_all := Lib.hid hC
  clear hb hC
  go_wp2_with fail
  clear HC_o5
  go_ret2
  exact ⟨HB.out, _, _, rfl, hc_all, HC_all.out⟩

end Go.Proofs.YtciikcmiiebfpaaGreatDoor
